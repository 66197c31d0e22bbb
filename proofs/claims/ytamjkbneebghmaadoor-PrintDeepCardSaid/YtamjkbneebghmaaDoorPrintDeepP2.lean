/-
  The texts that the law's proof needs, part 2.
-/
import Derived.Carry
import Derived.ChangeSame
import Derived.Deep.Slices
import Derived.Handed
import Derived.KernelRfl
import Derived.LaidHandle
import Derived.LaidLaws
import Derived.LaidMore
import Derived.Lib.ItoaLen
import Derived.Lib.ItoaNum
import Derived.Lib.Join
import Derived.Lib.LaidTab
import Derived.Lib.SlBytesConst
import Derived.OpenShut
import Derived.ProofKit
import Derived.RowKit
import Derived.SizedLaws
import Derived.Stop.LaidErr
import Derived.Test.YtamjkbneebghmaaDoorRows
import Derived.WalkKit
import Derived.WideKeyElems2
import Derived.Test.YtamjkbneebghmaaDoorPrintDeepP1

namespace Go.Proofs.YtamjkbneebghmaaDoor.V
open Go
set_option linter.unusedVariables false
def print_text_1.b (n_:SDesc→Int→Int→(Str × Int)→Prop) (level_:Int) (front_:Str) (back_:Str) (cap0_:SDesc) (cap1_:SNode) (r_:(Str × Int)):Prop:=∃r1:(Str × Int),n_ cap0_ cap1_.2.1 level_ r1∧(front_.length+r1.1.length≤9223372036854775807)∧((front_++r1.1).length+back_.length≤9223372036854775807)∧r_=((front_++r1.1)++back_,r1.2)
def print_text_2.b (n_:SDesc→Int→Int→(Str × Int)→Prop) (level_:Int) (between_:Str) (cap0_:SDesc) (cap1_:SNode) (r_:(Str × Int)):Prop:=∃r1:(Str × Int),n_ cap0_ cap1_.2.1 level_ r1∧(InR .i64 (level_+1))∧∃r4:(Str × Int),n_ cap0_ cap1_.2.2.1 (level_+1) r4∧(r1.1.length+between_.length≤9223372036854775807)∧((r1.1++between_).length+r4.1.length≤9223372036854775807)∧r_=((r1.1++between_)++r4.1,(max r1.2 r4.2))
def zbb (front_:Str) (cap0_:(Int × Str × Str × Str × Int→Prop)) (r_:(Str × Int)):Prop:=∃r1:(Str × Int),cap0_ (0,front_,([41]:Str),r1.1,r1.2)∧(InR .i64 (r1.2+1))∧r_=(r1.1,r1.2+1)
def zcd  (r_:(Str × Int)):Prop:=r_=(([40,41]:Str),1)
def zci (cv_:Int) (r_:Str):Prop:=(0≤cv_)∧(0≤cv_)∧(InR .i64 ((cv_ / 16)+1))∧((0:Int)≤(cv_ / 16)∧(cv_ / 16)≤((cv_ / 16)+1)∧((cv_ / 16)+1)≤(([48,49,50,51,52,53,54,55,56,57,97,98,99,100,101,102]:Str).length:Int))∧(0≤cv_)∧(0≤cv_)∧(InR .i64 ((cv_ % 16)+1))∧((0:Int)≤(cv_ % 16)∧(cv_ % 16)≤((cv_ % 16)+1)∧((cv_ % 16)+1)≤(([48,49,50,51,52,53,54,55,56,57,97,98,99,100,101,102]:Str).length:Int))∧(((([48,49,50,51,52,53,54,55,56,57,97,98,99,100,101,102]:Str).take ((cv_ / 16)+1:Int).toNat).drop (cv_ / 16:Int).toNat).length+((([48,49,50,51,52,53,54,55,56,57,97,98,99,100,101,102]:Str).take ((cv_ % 16)+1:Int).toNat).drop (cv_ % 16:Int).toNat).length≤9223372036854775807)∧r_=((([48,49,50,51,52,53,54,55,56,57,97,98,99,100,101,102]:Str).take ((cv_ / 16)+1:Int).toNat).drop (cv_ / 16:Int).toNat)++((([48,49,50,51,52,53,54,55,56,57,97,98,99,100,101,102]:Str).take ((cv_ % 16)+1:Int).toNat).drop (cv_ % 16:Int).toNat)
def za.j1 (r_:Str) (rows5:(List Str)):Prop:=∃r8:Str,zdj rows5 ([44]:Str) r8∧(([60]:Str).length+r8.length≤9223372036854775807)∧((([60]:Str)++r8).length+([62]:Str).length≤9223372036854775807)∧r_=(([60]:Str)++r8)++([62]:Str)
def za.j2 (L1_:(List Str)→Int→Prop) (rows12:(List Str)) (last25:Int) (s30:Str):Prop:=(rows12.length+[s30].length≤2147483648)∧(InR .i64 (last25+1))∧L1_ (rows12++[s30]) (last25+1)
def za.j3 (L1_:(List Str)→Int→Prop) (rows12:(List Str)) (c14:Int) (last25:Int):Prop:=∃r27:Str,zci c14 r27∧((decide (c14<last25))=true→∃r35:Str,zci last25 r35∧(([45]:Str).length+r35.length≤9223372036854775807)∧(r27.length+(([45]:Str)++r35).length≤9223372036854775807)∧(za.j2 (L1_) rows12 last25) (r27++(([45]:Str)++r35)))∧((decide (c14<last25))=false→(za.j2 (L1_) rows12 last25) r27)
def za.l2 (a_:Cl) (X2:Int→Prop):Nat→Int→Prop
 | 0,_=>False
 | k_0+1,last39=>(InR .i64 (last39+1))∧(((decide (last39+1<256))=true)→InR .i64 (last39+1))∧∃r46:Bool,(((decide (last39+1<256))=true)→zb5 a_ ((last39+1) % 256) r46)∧((((decide (last39+1<256))&&r46))=true→(InR .i64 (last39+1))∧za.l2 a_ X2 k_0 (last39+1))∧((((decide (last39+1<256))&&r46))=false→X2 last39)
def za.l1 (a_:Cl) (X1:(List Str)→Prop):Nat→(List Str)→Int→Prop
 | 0,_,_=>False
 | k_0+1,rows12,c14=>((decide (c14<256))=true→∃r21:Bool,zb5 a_ (c14 % 256) r21∧(((!r21))=true→(InR .i64 (c14+1))∧za.l1 a_ X1 k_0 rows12 (c14+1))∧(((!r21))=false→∃k40,za.l2 a_ (za.j3 (za.l1 a_ X1 k_0) rows12 c14) k40 c14))∧((decide (c14<256))=false→X1 rows12)
def za (a_:Cl) (r_:Str):Prop:=∃r2:Int,zl a_ r2∧(((r2==256))=true→r_=([46]:Str))∧(((r2==256))=false→∃k15,za.l1 a_ (za.j1 r_) k15 ([]:(List Str)) 0)
def zcc (cap0_:SNode) (r_:(Str × Int)):Prop:=∃r1:Str,za cap0_.2.2.2.2.2.1 r1∧r_=(r1,0)
def zcb (cap0_:SNode) (r_:(Str × Int)):Prop:=(([34]:Str).length+cap0_.2.2.2.2.2.2.length≤9223372036854775807)∧((([34]:Str)++cap0_.2.2.2.2.2.2).length+([34]:Str).length≤9223372036854775807)∧r_=((([34]:Str)++cap0_.2.2.2.2.2.2)++([34]:Str),0)
def zca (cap0_:(Int × Str × Str × Int→Prop)) (r_:(Str × Int)):Prop:=∃r1:(Str × Int),cap0_ (1,([]:Str),r1.1,r1.2)∧r_=(r1.1,r1.2)
def zb9 (cap0_:(Int × Str × Str × Int→Prop)) (r_:(Str × Int)):Prop:=∃r1:(Str × Int),cap0_ (0,([124]:Str),r1.1,r1.2)∧r_=(r1.1,r1.2)
def zb8 (cap0_:(Int × Str × Str × Str × Int→Prop)) (r_:(Str × Int)):Prop:=∃r1:(Str × Int),cap0_ (2,([]:Str),([42]:Str),r1.1,r1.2)∧r_=(r1.1,r1.2)
def zbv (cap0_:(Int × Str × Str × Str × Int→Prop)) (cap1_:SNode) (r_:(Str × Int)):Prop:=∃r1:Str,zb6 cap1_.2.2.2.1 r1∧(([123]:Str).length+r1.length≤9223372036854775807)∧((([123]:Str)++r1).length+([44]:Str).length≤9223372036854775807)∧∃r5:Str,zb6 cap1_.2.2.2.2.1 r5∧(((([123]:Str)++r1)++([44]:Str)).length+r5.length≤9223372036854775807)∧((((([123]:Str)++r1)++([44]:Str))++r5).length+([125]:Str).length≤9223372036854775807)∧∃r9:(Str × Int),cap0_ (2,([]:Str),(((([123]:Str)++r1)++([44]:Str))++r5)++([125]:Str),r9.1,r9.2)∧r_=(r9.1,r9.2)
def zbu (cap0_:(Str × Str × Int→Prop)) (r_:(Str × Int)):Prop:=∃r1:(Str × Int),cap0_ (([98,40]:Str),r1.1,r1.2)∧r_=(r1.1,r1.2)
def zbt (cap0_:(Str × Str × Int→Prop)) (r_:(Str × Int)):Prop:=∃r1:(Str × Int),cap0_ (([119,40]:Str),r1.1,r1.2)∧r_=(r1.1,r1.2)
def zf.j1 (n_:SDesc→Int→Int→(Str × Int)→Prop) (d_:SDesc) (i_:Int) (level_:Int) (r_:(Str × Int)) (e1:SNode) (own5:Int):Prop:=((decide (own5<level_))=true→∃r8:(Str × Int),n_ d_ i_ own5 r8∧(([40]:Str).length+r8.1.length≤9223372036854775807)∧((([40]:Str)++r8.1).length+([41]:Str).length≤9223372036854775807)∧(InR .i64 (r8.2+1))∧r_=((([40]:Str)++r8.1)++([41]:Str),r8.2+1))∧((decide (own5<level_))=false→∃r19:(Str × Int),(zcf (zp (zp (zp (zp (zp (zp (zp (zp (zp ([]:(List (Int × (Str × Int→Prop)))) 1 (fun q_=>zcd (q_.1,q_.2))) 2 (fun q_=>zcc e1 (q_.1,q_.2))) 3 (fun q_=>zcb e1 (q_.1,q_.2))) 4 (fun q_=>zca (fun q_=>print_text_2.b (n_) q_.1 q_.2.1 d_ e1 (q_.2.2.1,q_.2.2.2)) (q_.1,q_.2))) 5 (fun q_=>zb9 (fun q_=>print_text_2.b (n_) q_.1 q_.2.1 d_ e1 (q_.2.2.1,q_.2.2.2)) (q_.1,q_.2))) 6 (fun q_=>zb8 (fun q_=>print_text_1.b (n_) q_.1 q_.2.1 q_.2.2.1 d_ e1 (q_.2.2.2.1,q_.2.2.2.2)) (q_.1,q_.2))) 7 (fun q_=>zbv (fun q_=>print_text_1.b (n_) q_.1 q_.2.1 q_.2.2.1 d_ e1 (q_.2.2.2.1,q_.2.2.2.2)) e1 (q_.1,q_.2))) 8 (fun q_=>zbu (fun q_=>zbb q_.1 (fun q_=>print_text_1.b (n_) q_.1 q_.2.1 q_.2.2.1 d_ e1 (q_.2.2.2.1,q_.2.2.2.2)) (q_.2.1,q_.2.2)) (q_.1,q_.2))) 9 (fun q_=>zbt (fun q_=>zbb q_.1 (fun q_=>print_text_1.b (n_) q_.1 q_.2.1 q_.2.2.1 d_ e1 (q_.2.2.2.1,q_.2.2.2.2)) (q_.2.1,q_.2.2)) (q_.1,q_.2))) e1.1 (fun _=>False)) (r19.1,r19.2)∧r_=(r19.1,r19.2))
def zf.n:Nat→SDesc→Int→Int→(Str × Int)→Prop
 | 0,_,_,_,_=>False
 | k_+1,d_,i_,level_,r_=>∃e1:SNode,at? d_ i_=some e1∧(((!(zee gfm0 e1.1)))=true→(zf.j1 (zf.n k_) d_ i_ level_ r_ e1) 3)∧(((!(zee gfm0 e1.1)))=false→(zf.j1 (zf.n k_) d_ i_ level_ r_ e1) (lvI (zcf gfm0 e1.1 none)))
def zf (d_:SDesc) (i_:Int) (level_:Int) (r_:(Str × Int)):Prop:=∃k_,zf.n k_ d_ i_ level_ r_
def zbn (d_:SDesc) (r_:Str):Prop:=(InR .i64 ((d_.length:Int)-1))∧∃r2:(Str × Int),zf d_ ((d_.length:Int)-1) 0 r2∧r_=r2.1
def zo (d_:SDesc) (r_:Int):Prop:=(InR .i64 ((d_.length:Int)-1))∧∃r2:(Str × Int),zf d_ ((d_.length:Int)-1) 0 r2∧r_=r2.2
def zb2  (r_:Bool):Prop:=∃r1:Cl,zt 0 255 r1∧∃r4:SDesc,zbw 5 [(2,0,0,0,0,r1,([]:Str))] [(2,0,0,0,0,r1,([]:Str))] r4∧∃r8:SDesc,zbm 6 0 0 r4 r8∧∃r13:SDesc,zbm 8 0 0 r8 r13∧∃r18:Str,zbn r8 r18∧∃r20:Int,((((r18==([40,46,124,46,41,42]:Str)))=true)→zo r8 r20)∧∃b22:Bool,b22=((r18==([40,46,124,46,41,42]:Str))&&(r20==1))∧∃r24:Str,(((b22)=true)→zbn r13 r24)∧∃b26:Bool,b26=(r24==([98,40,40,46,124,46,41,42,41]:Str))∧∃r28:Int,((((b22&&b26))=true)→zo r13 r28)∧∃r30:Cl,(((((b22&&b26)&&(r28==2)))=true)→zt 97 98 r30)∧∃r32:Str,(((((b22&&b26)&&(r28==2)))=true)→za r30 r32)∧∃b34:Bool,b34=(((b22&&b26)&&(r28==2))&&(r32==([60,54,49,45,54,50,62]:Str)))∧∃r36:Str,(((b34)=true)→za (0#256) r36)∧∃r38:Str,((((b34&&(r36==([60,62]:Str))))=true)→za (Cl.ofWords 5 0 0 0) r38)∧∃b40:Bool,b40=((b34&&(r36==([60,62]:Str)))&&(r38==([60,48,48,44,48,50,62]:Str)))∧∃r42:Int,(((b40)=true)→zo [(2,0,0,0,0,r1,([]:Str))] r42)∧r_=(b40&&(r42==0))
def zd.j1 (a_:SDesc) (b_:SDesc) (r_:Bool) (r14:Int) (r16:Int) (left25:Int) (right28:Int) (or31:Int) (star34:Int):Prop:=∃r36:SDesc,zbm 8 0 0 a_ r36∧∃r38:Int,zo r36 r38∧(InR .i64 (r14+1))∧∃r41:SDesc,((((r38==(r14+1)))=true)→zbw 5 a_ b_ r41)∧∃r43:Int,((((r38==(r14+1)))=true)→zo r41 r43)∧((((r38==(r14+1)))=true)→InR .i64 (r16+or31))∧∃b46:Bool,b46=((r38==(r14+1))&&(r43==(max r14 (r16+or31))))∧∃r48:SDesc,(((b46)=true)→zbw 4 a_ b_ r48)∧∃r50:Int,(((b46)=true)→zo r48 r50)∧(((b46)=true)→InR .i64 (r14+left25))∧(((b46)=true)→InR .i64 (r16+right28))∧∃b54:Bool,b54=(b46&&(r50==(max (r14+left25) (r16+right28))))∧∃r56:SDesc,(((b54)=true)→zbm 6 0 0 a_ r56)∧∃r58:Int,(((b54)=true)→zo r56 r58)∧(((b54)=true)→InR .i64 (r14+star34))∧r_=(b54&&(r58==(r14+star34)))
def zd.j2 (a_:SDesc) (b_:SDesc) (r_:Bool) (r14:Int) (r16:Int) (e19:SNode) (left25:Int) (right28:Int) (or31:Int):Prop:=((((e19.1==5)||(e19.1==4)))=true→(zd.j1 a_ b_ r_ r14 r16 left25 right28 or31) 1)∧((((e19.1==5)||(e19.1==4)))=false→(zd.j1 a_ b_ r_ r14 r16 left25 right28 or31) 0)
def zd.j3 (a_:SDesc) (b_:SDesc) (r_:Bool) (r14:Int) (r16:Int) (e19:SNode) (e22:SNode) (left25:Int) (right28:Int):Prop:=(((e22.1==5))=true→(zd.j2 a_ b_ r_ r14 r16 e19 left25 right28) 1)∧(((e22.1==5))=false→(zd.j2 a_ b_ r_ r14 r16 e19 left25 right28) 0)
def zd.j4 (a_:SDesc) (b_:SDesc) (r_:Bool) (r14:Int) (r16:Int) (e19:SNode) (e22:SNode) (left25:Int):Prop:=((((e22.1==5)||(e22.1==4)))=true→(zd.j3 a_ b_ r_ r14 r16 e19 e22 left25) 1)∧((((e22.1==5)||(e22.1==4)))=false→(zd.j3 a_ b_ r_ r14 r16 e19 e22 left25) 0)
def zd (a_:SDesc) (b_:SDesc) (r_:Bool):Prop:=∃r2:Bool,zb2  r2∧∃r4:Bool,((((!r2))=false)→zq a_ r4)∧∃r6:Bool,(((((!r2)||(!r4)))=false)→zq b_ r6)∧∃r8:Bool,((((((!r2)||(!r4))||(!r6)))=false)→zbx a_ r8)∧∃r10:Bool,(((((((!r2)||(!r4))||(!r6))||(!r8)))=false)→zbx b_ r10)∧(((((((!r2)||(!r4))||(!r6))||(!r8))||(!r10)))=true→∃r12:Bool,zb2  r12∧r_=r12)∧(((((((!r2)||(!r4))||(!r6))||(!r8))||(!r10)))=false→∃r14:Int,zo a_ r14∧∃r16:Int,zo b_ r16∧(InR .i64 ((a_.length:Int)-1))∧∃e19:SNode,at? a_ ((a_.length:Int)-1)=some e19∧(InR .i64 ((b_.length:Int)-1))∧∃e22:SNode,at? b_ ((b_.length:Int)-1)=some e22∧(((e19.1==5))=true→(zd.j4 a_ b_ r_ r14 r16 e19 e22) 1)∧(((e19.1==5))=false→(zd.j4 a_ b_ r_ r14 r16 e19 e22) 0))
set_option maxRecDepth 100000
set_option maxHeartbeats 2000000
set_option synthInstance.maxSize 100000
set_option synthInstance.maxHeartbeats 200000
theorem print_text_1.b_ok {n_:SDesc→Int→Int→(Str × Int)→Prop} (ih_:∀{y0_:SDesc} {y1_:Int} {y2_:Int} {r_:(Str × Int)} (h:n_ y0_ y1_ y2_ r_),Fn Tryd.prog 21 [Pd.rep En.SDesc y0_,Pd.rep (En.int .i64) y1_,Pd.rep (En.int .i64) y2_] (Rq2 (Pd.rep En.str r_.1) (Pi r_.2))) {level_:Int} {front_:Str} {back_:Str} {cap0_:SDesc} {cap1_:SNode} {r_:(Str × Int)} (h:print_text_1.b n_ level_ front_ back_ cap0_ cap1_ r_):Fn Tryd.prog 32 [(Pi level_),(Pd.rep En.str front_),(Pd.rep En.str back_),(Pd.ptr En.SDesc cap0_),(Pd.ptr En.SNode cap1_)] (Rq2 (Pd.rep En.str r_.1) (Pi r_.2)):=by
 unfold print_text_1.b at h;refine zbe Tryd.func32 J Tryd.ntmps32 (by rfl) (by simp) fun s0 a L=>?_;refine rs (sv (zr (o_s (by decide)) J J) L fun a s L=>?_);refine sA 1 L fun a s L=>?_;refine es ?_;obtain ⟨r1,h2,h⟩:=h;refine ra 10 (p1 ((ih_ h2).tup)) L fun a s L=>?_;obtain ⟨h3,h4,h⟩:=h;refine rA 8 L fun a s L=>?_;subst h;exact wp_ret (ret2 J L J J)
theorem print_text_2.b_ok {n_:SDesc→Int→Int→(Str × Int)→Prop} (ih_:∀{y0_:SDesc} {y1_:Int} {y2_:Int} {r_:(Str × Int)} (h:n_ y0_ y1_ y2_ r_),Fn Tryd.prog 21 [Pd.rep En.SDesc y0_,Pd.rep (En.int .i64) y1_,Pd.rep (En.int .i64) y2_] (Rq2 (Pd.rep En.str r_.1) (Pi r_.2))) {level_:Int} {between_:Str} {cap0_:SDesc} {cap1_:SNode} {r_:(Str × Int)} (h:print_text_2.b n_ level_ between_ cap0_ cap1_ r_):Fn Tryd.prog 33 [(Pi level_),(Pd.rep En.str between_),(Pd.ptr En.SDesc cap0_),(Pd.ptr En.SNode cap1_)] (Rq2 (Pd.rep En.str r_.1) (Pi r_.2)):=by
 unfold print_text_2.b at h;refine zbe Tryd.func33 J Tryd.ntmps33 (by rfl) (by simp) fun s0 a L=>?_;refine rs (sv (zr (o_s (by decide)) J J) L fun a s L=>?_);refine sA 1 L fun a s L=>?_;refine es ?_;obtain ⟨r1,h2,h⟩:=h;refine ra 10 (p1 ((ih_ h2).tup)) L fun a s L=>?_;obtain ⟨h3,r4,h5,h⟩:=h;refine ra 11 (p1 ((ih_ h5).tup)) L fun a s L=>?_;obtain ⟨h6,h7,h⟩:=h;refine rA 10 L fun a s L=>?_;subst h;exact wp_ret (ret2 J L J J)
theorem zd9 {front_:Str} {cap0_:(Int × Str × Str × Str × Int→Prop)} {r_:(Str × Int)} (h:zbb front_ cap0_ r_):Fn Tryd.prog 34 [(Pd.rep En.str front_),(Pd.ptr EnF63 cap0_)] (Rq2 (Pd.rep En.str r_.1) (Pi r_.2)):=by
 unfold zbb at h;refine zbe Tryd.func34 J Tryd.ntmps34 (by rfl) (by simp) fun s0 a L=>?_;refine rs (sv (zr (o_s (by decide)) J J) L fun a s L=>?_);refine sA 1 L fun a s L=>?_;refine es ?_;obtain ⟨r1,h2,h⟩:=h;refine rs (sA 2 L fun a s L=>?_);refine sv (zcq (q:=(0,front_,([41]:Str),r1.1,r1.2)) op h2 (xs:=[.const (.int .i64 0),.tmp 9,.const (.string ⟨#[41]⟩)]) (.cons op (.cons op (.cons (o_s (by decide)) .nil))) (fun _ _ _ h_=>zdh h_) J J) L fun a s L=>?_;refine sA 5 L fun a s L=>?_;refine es ?_;obtain ⟨h3,h⟩:=h;refine rA 5 L fun a s L=>?_;subst h;exact wp_ret (ret2 J L J J)
theorem zd8  {r_:(Str × Int)} (h:zcd  r_):Fn Tryd.prog 35 [] (Rq2 (Pd.rep En.str r_.1) (Pi r_.2)):=by
 unfold zcd at h;refine zbe Tryd.func35 J Tryd.ntmps35 (by rfl) (by simp) fun s0 a L=>?_;refine rs (sv (zr (o_s (by decide)) J J) L fun a s L=>?_);refine sA 1 L fun a s L=>?_;refine es (rs ?_);refine sv (zr (o_s (by decide)) J J) L fun a s L=>?_;refine sA 1 L fun a s L=>?_;refine es ?_;subst h;exact wp_ret (ret2 J L J J)
theorem zdo {cv_:Int} {r_:Str} (h:zci cv_ r_):Fn Tryd.prog 25 [(Pi cv_)] (Rq (Pd.rep En.str r_)):=by
 unfold zci at h;refine zbe Tryd.func25 J Tryd.ntmps25 (by rfl) (by simp) fun s0 a L=>?_;refine rs (sv (zr (o_s (by decide)) J J) L fun a s L=>?_);refine es ?_;obtain ⟨h1,h2,h3,h4,h5,h6,h7,h8,h9,h⟩:=h;refine wp_seq (rda ze7 13 [(Pi cv_),(Pi (cv_ / 16)),(Pi cv_),(Pi (cv_ / 16)),(Pi ((cv_ / 16)+1)),(Pd.rep En.str ((([48,49,50,51,52,53,54,55,56,57,97,98,99,100,101,102]:Str).take ((cv_ / 16)+1:Int).toNat).drop (cv_ / 16:Int).toNat)),(Pi cv_),(Pi (cv_ % 16)),(Pi cv_),(Pi (cv_ % 16)),(Pi ((cv_ % 16)+1)),(Pd.rep En.str ((([48,49,50,51,52,53,54,55,56,57,97,98,99,100,101,102]:Str).take ((cv_ % 16)+1:Int).toNat).drop (cv_ % 16:Int).toNat)),(Pd.rep En.str (((([48,49,50,51,52,53,54,55,56,57,97,98,99,100,101,102]:Str).take ((cv_ / 16)+1:Int).toNat).drop (cv_ / 16:Int).toNat)++((([48,49,50,51,52,53,54,55,56,57,97,98,99,100,101,102]:Str).take ((cv_ % 16)+1:Int).toNat).drop (cv_ % 16:Int).toNat)))] L (by kernel_rfl) J J ?_ ?_)
 ·refine zbh.cons (zc4 (O 0 J) J J) ?_;refine zbh.cons (t_quo (O 3 J) oI h1 (by decide) J J) ?_;refine zbh.cons (zc4 (O 0 J) J J) ?_;refine zbh.cons (t_quo (O 5 J) oI h2 (by decide) J J) ?_;refine zbh.cons (t_add (O 6 J) oI h3 J J) ?_;refine zbh.cons (t_spart (o_s (by decide)) (O 4 J) (O 7 J) h4 Tryd.underlying9 J J) ?_;refine zbh.cons (zc4 (O 0 J) J J) ?_;refine zbh.cons (t_rem (O 9 J) oI h5 (by decide) J J) ?_;refine zbh.cons (zc4 (O 0 J) J J) ?_;refine zbh.cons (t_rem (O 11 J) oI h6 (by decide) J J) ?_;refine zbh.cons (t_add (O 12 J) oI h7 J J) ?_;refine zbh.cons (t_spart (o_s (by decide)) (O 10 J) (O 13 J) h8 Tryd.underlying9 J J) ?_;refine zbh.cons (zbc (O 8 J) (O 14 J) h9 J J) ?_;exact zbh.nil
 intro a s _ L;replace L:=L.kk (L':=[(2,(Pd.rep En.str ([]:Str))),(15,(Pd.rep En.str (((([48,49,50,51,52,53,54,55,56,57,97,98,99,100,101,102]:Str).take ((cv_ / 16)+1:Int).toNat).drop (cv_ / 16:Int).toNat)++((([48,49,50,51,52,53,54,55,56,57,97,98,99,100,101,102]:Str).take ((cv_ % 16)+1:Int).toNat).drop (cv_ % 16:Int).toNat))))]);refine dp ?_;refine sA 1 L fun a s L=>?_;refine es ?_;subst h;exact wp_ret (zcy J L J)
theorem zbp {a_:Cl} {r_:Str} (h:za a_ r_):Fn Tryd.prog 13 [(Pd.rep En.cls a_)] (Rq (Pd.rep En.str r_)):=by
 unfold za at h;refine zbe Tryd.func13 J Tryd.ntmps13 (by rfl) (by simp) fun s0 a L=>?_;refine rs (sA 1 L fun a s L=>?_);refine sv (zr (o_s (by decide)) J J) L fun a s L=>?_;refine es (wp_seq_k fun K1 H1=>?_);obtain ⟨r2,h3,h⟩:=h;refine ra 3 (p1 (zen h3)) L fun a s L=>?_;refine cn L h (fun h=>?_) fun h=>?_
 ·refine rs ?_;refine sv (zr (o_s (by decide)) J J) L fun a s L=>?_;refine es ?_;subst h;exact wp_ret (zcy J L J)
 ·refine wp_skip (H1 _ _ ?_);refine rs (sno En.str 9 L fun a s L=>?_);refine es (wp_seq_k fun K4 H4=>?_);refine rA 1 L fun a s L=>?_;refine wp_block ?_;have J7:∀(rows5:(List Str)) (og6:Option Nat) (a:Act) (s:St),Has N0 51 s0 a s [(3,(Pd.row En.str s0.w.heap.size 9 og6 rows5))]→((za.j1 r_) rows5)→K4 a s.w:=by
   intro rows5 og6 a s L h;unfold za.j1 at h;show K4 a s.w;refine H4 _ _ (fzc 3 L fun s L=>?_);obtain ⟨r8,h9,h10,h11,h⟩:=h;refine rs (sA 1 L fun a s L=>?_);refine sv (t_call (zd1 h9) (xs:=[.tmp 47,.const (.string ⟨#[44]⟩)]) (.cons op (.cons (o_s (by decide)) .nil)) J J) L fun a s L=>?_;refine sv (zbc (o_s (by decide)) op h10 J J) L fun a s L=>?_;refine sv (zbc op (o_s (by decide)) h11 J J) L fun a s L=>?_;refine sA 1 L fun a s L=>?_;refine es ?_;subst h;exact wp_ret (zcy J L J)
  obtain ⟨k15,h⟩:=h;refine lpn (fun k16 a s=>∃(rows12:(List Str)) (c14:Int) (og13:Option Nat),Has N0 51 s0 a s [(1,(Pd.ptr En.cls a_)),(3,(Pd.row En.str s0.w.heap.size 9 og13 rows12)),(4,(Pi c14))]∧za.l1 a_ (za.j1 r_) k16 rows12 c14) k15 ⟨([]:(List Str)),0,none,L.kk,h⟩ ?_;rintro k16 a s ⟨rows12,c14,og13,L,h⟩ KL17 hKL17;unfold za.l1 at h;refine wp_seq_k fun K18 H18=>rA 2 L fun a s L=>?_;refine cn L h (fun h=>?_) fun h=>?_
  ·refine wp_skip (H18 _ _ ?_);refine wp_seq_k fun K19 H19=>wp_block (wp_seq_k fun K20 H20=>?_);obtain ⟨r21,h22,h⟩:=h;refine ra 5 (p1 (zcu h22)) L fun a s L=>?_;refine cn L h (fun h=>?_) fun h=>?_
   ·refine wp_exit ?_;show K19 a s.w;refine H19 _ _ ?_;obtain ⟨h23,h⟩:=h;refine rg (sA 3 L fun a s L=>?_);refine en' ?_;exact hKL17 a s ⟨rows12,(c14+1),og13,L.kk,h⟩
   ·refine wp_skip (H20 _ _ ?_);refine rA 2 L fun a s L=>?_;refine wp_seq_k fun K24 H24=>wp_block ?_;have J26:∀(last25:Int) (a:Act) (s:St),Has N0 51 s0 a s [(1,(Pd.ptr En.cls a_)),(3,(Pd.row En.str s0.w.heap.size 9 og13 rows12)),(4,(Pi c14)),(5,(Pi last25))]→((za.j3 (za.l1 a_ (za.j1 r_) k16) rows12 c14) last25)→K24 a s.w:=by
     intro last25 a s L h;unfold za.j3 at h;show K24 a s.w;refine H24 _ _ ?_;obtain ⟨r27,h28,h⟩:=h;refine ra 3 (p1 (zdo h28)) L fun a s L=>?_;refine wp_seq_k fun K29 H29=>rA 3 L fun a s L=>?_;have J31:∀(s30:Str) (a:Act) (s:St),Has N0 51 s0 a s [(1,(Pd.ptr En.cls a_)),(3,(Pd.row En.str s0.w.heap.size 9 og13 rows12)),(5,(Pi last25)),(6,(Pd.rep En.str s30))]→((za.j2 (za.l1 a_ (za.j1 r_) k16) rows12 last25) s30)→K29 a s.w:=by
      intro s30 a s L h;unfold za.j2 at h;show K29 a s.w;refine H29 _ _ ?_;obtain ⟨h32,h⟩:=h;refine rs (sA 3 L fun a s L=>?_);refine st_app 45 L op op Ud.h Tq.h h32 J J J J ka fun a s og33 hg_ L=>?_;refine sA 1 L fun a s L=>?_;refine es (rg ?_);refine sA 2 L fun a s L=>?_;refine en' (H19 _ _ ?_);obtain ⟨h34,h⟩:=h;refine rg (sA 3 L fun a s L=>?_);refine en' ?_;exact hKL17 a s ⟨(rows12++[s30]),(last25+1),og33,L.kk,h⟩
     refine cn L h (fun h=>?_) fun h=>?_
     ·obtain ⟨r35,h36,h37,h38,h⟩:=h;refine rg (sl 3 (p1 (zdo h36)) L fun a s L=>?_);refine sv (zbc (o_s (by decide)) op h37 J J) L fun a s L=>?_;refine sA 2 L fun a s L=>?_;refine en' ?_;exact J31 (r27++(([45]:Str)++r35)) a s (L.kk) h
     ·refine wp_skip ?_;exact J31 r27 a s (L.kk) h
    obtain ⟨k40,h⟩:=h;refine lpn (fun k41 a s=>∃(last39:Int),Has N0 51 s0 a s [(1,(Pd.ptr En.cls a_)),(3,(Pd.row En.str s0.w.heap.size 9 og13 rows12)),(4,(Pi c14)),(5,(Pi last39))]∧za.l2 a_ (za.j3 (za.l1 a_ (za.j1 r_) k16) rows12 c14) k41 last39) k40 ⟨c14,L.kk,h⟩ ?_;rintro k41 a s ⟨last39,L,h⟩ KL42 hKL42;unfold za.l2 at h;refine wp_seq_k fun K43 H43=>?_;obtain ⟨h44,h45,r46,h47,h⟩:=h;refine ra 10 (pp (fun hc_=>(zcu (h47 hc_))) trivial) L fun a s L=>?_;refine cn L h (fun h=>?_) fun h=>?_
    ·refine wp_skip (H43 _ _ ?_);refine wp_block ?_;obtain ⟨h48,h⟩:=h;refine rg (sA 3 L fun a s L=>?_);refine en' ?_;exact hKL42 a s ⟨(last39+1),L.kk,h⟩
    ·refine wp_exit ?_;exact J26 last39 a s (L.kk) h
  ·refine wp_exit ?_;exact J7 rows12 og13 a s (L.kk) h
theorem zd7 {cap0_:SNode} {r_:(Str × Int)} (h:zcc cap0_ r_):Fn Tryd.prog 36 [(Pd.ptr En.SNode cap0_)] (Rq2 (Pd.rep En.str r_.1) (Pi r_.2)):=by
 unfold zcc at h;refine zbe Tryd.func36 J Tryd.ntmps36 (by rfl) (by simp) fun s0 a L=>?_;refine rs (sv (zr (o_s (by decide)) J J) L fun a s L=>?_);refine sA 1 L fun a s L=>?_;refine es ?_;obtain ⟨r1,h2,h⟩:=h;refine ra 5 (p1 (zbp h2)) L fun a s L=>?_;subst h;exact wp_ret (ret2 J L J J)
theorem zd6 {cap0_:SNode} {r_:(Str × Int)} (h:zcb cap0_ r_):Fn Tryd.prog 37 [(Pd.ptr En.SNode cap0_)] (Rq2 (Pd.rep En.str r_.1) (Pi r_.2)):=by
 unfold zcb at h;refine zbe Tryd.func37 J Tryd.ntmps37 (by rfl) (by simp) fun s0 a L=>?_;refine rs (sv (zr (o_s (by decide)) J J) L fun a s L=>?_);refine sA 1 L fun a s L=>?_;refine es ?_;obtain ⟨h1,h2,h⟩:=h;refine rs (sA 2 L fun a s L=>?_);refine sv (zbc (o_s (by decide)) op h1 J J) L fun a s L=>?_;refine sv (zbc op (o_s (by decide)) h2 J J) L fun a s L=>?_;refine sA 2 L fun a s L=>?_;refine es ?_;subst h;exact wp_ret (ret2 J L J J)
theorem zd5 {cap0_:(Int × Str × Str × Int→Prop)} {r_:(Str × Int)} (h:zca cap0_ r_):Fn Tryd.prog 38 [(Pd.ptr EnF64 cap0_)] (Rq2 (Pd.rep En.str r_.1) (Pi r_.2)):=by
 unfold zca at h;refine zbe Tryd.func38 J Tryd.ntmps38 (by rfl) (by simp) fun s0 a L=>?_;refine rs (sv (zr (o_s (by decide)) J J) L fun a s L=>?_);refine sA 1 L fun a s L=>?_;refine es ?_;obtain ⟨r1,h2,h⟩:=h;refine rs (sA 1 L fun a s L=>?_);refine sv (zcq (q:=(1,([]:Str),r1.1,r1.2)) op h2 (xs:=[.const (.int .i64 1),.const (.string ⟨#[]⟩)]) (.cons op (.cons (o_s (by decide)) .nil)) (fun _ _ _ h_=>zdh h_) J J) L fun a s L=>?_;refine sA 4 L fun a s L=>?_;refine es ?_;subst h;exact wp_ret (ret2 J L J J)
theorem zd4 {cap0_:(Int × Str × Str × Int→Prop)} {r_:(Str × Int)} (h:zb9 cap0_ r_):Fn Tryd.prog 39 [(Pd.ptr EnF64 cap0_)] (Rq2 (Pd.rep En.str r_.1) (Pi r_.2)):=by
 unfold zb9 at h;refine zbe Tryd.func39 J Tryd.ntmps39 (by rfl) (by simp) fun s0 a L=>?_;refine rs (sv (zr (o_s (by decide)) J J) L fun a s L=>?_);refine sA 1 L fun a s L=>?_;refine es ?_;obtain ⟨r1,h2,h⟩:=h;refine rs (sA 1 L fun a s L=>?_);refine sv (zcq (q:=(0,([124]:Str),r1.1,r1.2)) op h2 (xs:=[.const (.int .i64 0),.const (.string ⟨#[124]⟩)]) (.cons op (.cons (o_s (by decide)) .nil)) (fun _ _ _ h_=>zdh h_) J J) L fun a s L=>?_;refine sA 4 L fun a s L=>?_;refine es ?_;subst h;exact wp_ret (ret2 J L J J)
theorem zd3 {cap0_:(Int × Str × Str × Str × Int→Prop)} {r_:(Str × Int)} (h:zb8 cap0_ r_):Fn Tryd.prog 40 [(Pd.ptr EnF63 cap0_)] (Rq2 (Pd.rep En.str r_.1) (Pi r_.2)):=by
 unfold zb8 at h;refine zbe Tryd.func40 J Tryd.ntmps40 (by rfl) (by simp) fun s0 a L=>?_;refine rs (sv (zr (o_s (by decide)) J J) L fun a s L=>?_);refine sA 1 L fun a s L=>?_;refine es ?_;obtain ⟨r1,h2,h⟩:=h;refine rs (sA 1 L fun a s L=>?_);refine sv (zcq (q:=(2,([]:Str),([42]:Str),r1.1,r1.2)) op h2 (xs:=[.const (.int .i64 2),.const (.string ⟨#[]⟩),.const (.string ⟨#[42]⟩)]) (.cons op (.cons (o_s (by decide)) (.cons (o_s (by decide)) .nil))) (fun _ _ _ h_=>zdh h_) J J) L fun a s L=>?_;refine sA 4 L fun a s L=>?_;refine es ?_;subst h;exact wp_ret (ret2 J L J J)
theorem zdt {cap0_:(Int × Str × Str × Str × Int→Prop)} {cap1_:SNode} {r_:(Str × Int)} (h:zbv cap0_ cap1_ r_):Fn Tryd.prog 41 [(Pd.ptr EnF63 cap0_),(Pd.ptr En.SNode cap1_)] (Rq2 (Pd.rep En.str r_.1) (Pi r_.2)):=by
 unfold zbv at h;refine zbe Tryd.func41 J Tryd.ntmps41 (by rfl) (by simp) fun s0 a L=>?_;refine rs (sv (zr (o_s (by decide)) J J) L fun a s L=>?_);refine sA 1 L fun a s L=>?_;refine es ?_;obtain ⟨r1,h2,h3,h4,r5,h6,h7,h8,r9,h10,h⟩:=h;refine wp_seq (rda ze7 14 [(Pd.rep EnF63 cap0_),(Pd.ptr (En.int .i64) cap1_.2.2.2.1),(Pi cap1_.2.2.2.1),(Pd.rep En.str r1),(Pd.rep En.str (([123]:Str)++r1)),(Pd.rep En.str ((([123]:Str)++r1)++([44]:Str))),(Pd.ptr (En.int .i64) cap1_.2.2.2.2.1),(Pi cap1_.2.2.2.2.1),(Pd.rep En.str r5),(Pd.rep En.str (((([123]:Str)++r1)++([44]:Str))++r5)),(Pd.rep En.str ((((([123]:Str)++r1)++([44]:Str))++r5)++([125]:Str))),(Pd.tup2 (Pd.rep En.str r9.1) (Pi r9.2)),(Pd.rep En.str r9.1),(Pi r9.2)] L (by kernel_rfl) J J ?_ ?_)
 ·refine zbh.cons (zcx ty63 (O 0 J) J J) ?_;refine zbh.cons (t_fa (off:=3) (O 1 J) Tryd.underlying43 J (zn (zn (zn (zct (zbg _ _)) J) J) J) J ty3 J J) ?_;refine zbh.cons (zcx ty3 (O 5 J) J J) ?_;refine zbh.cons (t_call (zcr h2) (xs:=[.tmp 6]) (.cons (O 6 J) .nil) J J) ?_;refine zbh.cons (zbc (o_s (by decide)) (O 7 J) h3 J J) ?_;refine zbh.cons (zbc (O 8 J) (o_s (by decide)) h4 J J) ?_;refine zbh.cons (t_fa (off:=4) (O 1 J) Tryd.underlying43 J (zn (zn (zn (zn (zct (zbg _ _)) J) J) J) J) J ty3 J J) ?_;refine zbh.cons (zcx ty3 (O 10 J) J J) ?_;refine zbh.cons (t_call (zcr h6) (xs:=[.tmp 11]) (.cons (O 11 J) .nil) J J) ?_;refine zbh.cons (zbc (O 9 J) (O 12 J) h7 J J) ?_;refine zbh.cons (zbc (O 13 J) (o_s (by decide)) h8 J J) ?_;refine zbh.cons (zcq (q:=(2,([]:Str),(((([123]:Str)++r1)++([44]:Str))++r5)++([125]:Str),r9.1,r9.2)) (O 4 J) h10 (xs:=[.const (.int .i64 2),.const (.string ⟨#[]⟩),.tmp 14]) (.cons oI (.cons (o_s (by decide)) (.cons (O 14 J) .nil))) (fun _ _ _ h_=>zdh h_) J J) ?_;refine zbh.cons (t_ext0 (O 15 J) J J) ?_;refine zbh.cons (t_ext1 (O 15 J) J J) ?_;exact zbh.nil
 intro a s _ L;replace L:=L.kk (L':=[(2,(Pd.rep En.str ([]:Str))),(3,(Pi 0)),(16,(Pd.rep En.str r9.1)),(17,(Pi r9.2))]);refine dp ?_;refine sA 2 L fun a s L=>?_;refine es ?_;subst h;exact wp_ret (ret2 J L J J)
theorem zds {cap0_:(Str × Str × Int→Prop)} {r_:(Str × Int)} (h:zbu cap0_ r_):Fn Tryd.prog 43 [(Pd.ptr EnF65 cap0_)] (Rq2 (Pd.rep En.str r_.1) (Pi r_.2)):=by
 unfold zbu at h;refine zbe Tryd.func43 J Tryd.ntmps43 (by rfl) (by simp) fun s0 a L=>?_;refine rs (sv (zr (o_s (by decide)) J J) L fun a s L=>?_);refine sA 1 L fun a s L=>?_;refine es ?_;obtain ⟨r1,h2,h⟩:=h;refine rs (sA 1 L fun a s L=>?_);refine sv (zcq (q:=(([98,40]:Str),r1.1,r1.2)) op h2 (xs:=[.const (.string ⟨#[98,40]⟩)]) (.cons (o_s (by decide)) .nil) (fun _ _ _ h_=>zdh h_) J J) L fun a s L=>?_;refine sA 4 L fun a s L=>?_;refine es ?_;subst h;exact wp_ret (ret2 J L J J)
theorem zdr {cap0_:(Str × Str × Int→Prop)} {r_:(Str × Int)} (h:zbt cap0_ r_):Fn Tryd.prog 44 [(Pd.ptr EnF65 cap0_)] (Rq2 (Pd.rep En.str r_.1) (Pi r_.2)):=by
 unfold zbt at h;refine zbe Tryd.func44 J Tryd.ntmps44 (by rfl) (by simp) fun s0 a L=>?_;refine rs (sv (zr (o_s (by decide)) J J) L fun a s L=>?_);refine sA 1 L fun a s L=>?_;refine es ?_;obtain ⟨r1,h2,h⟩:=h;refine rs (sA 1 L fun a s L=>?_);refine sv (zcq (q:=(([119,40]:Str),r1.1,r1.2)) op h2 (xs:=[.const (.string ⟨#[119,40]⟩)]) (.cons (o_s (by decide)) .nil) (fun _ _ _ h_=>zdh h_) J J) L fun a s L=>?_;refine sA 4 L fun a s L=>?_;refine es ?_;subst h;exact wp_ret (ret2 J L J J)
theorem zf.n_ok (k_:Nat):∀{d_:SDesc} {i_:Int} {level_:Int} {r_:(Str × Int)} (h:zf.n k_ d_ i_ level_ r_),Fn Tryd.prog 21 [(Pd.rep En.SDesc d_),(Pi i_),(Pi level_)] (Rq2 (Pd.rep En.str r_.1) (Pi r_.2)):=by
 induction k_ with
 | zero=>intro d_ i_ level_ r_ h;exact h.elim
 | succ k_ ih_=>
 intro d_ i_ level_ r_ h;unfold zf.n at h;refine zbe Tryd.func21 J Tryd.ntmps21 (by rfl) (by simp) fun s0 a L=>?_;refine rs (sA 1 L fun a s L=>?_);refine sv (zr (o_s (by decide)) J J) L fun a s L=>?_;refine sA 1 L fun a s L=>?_;refine es ?_;obtain ⟨e1,h2,h⟩:=h;refine rs (sl 5 (p1 h2) L fun a s L=>?_);refine zz En.SNode (z:=(0,0,0,0,0,(0#256),([]:Str))) 8 L tyz43 J J J J fun a s g3 hg_ L=>?_;refine sB 8 L fun s L=>?_;refine es (rs ?_);refine sv (zcx (⟨⟨_,_,J,J,J,J,by decide⟩,_,J,J⟩:Ty Tryd.prog 62 (En.fmap (En.int .i64) kvI64 En.fid)) (o_gm (g:=0) (l:=gfm0) (by simp [gmap])) J J) L fun a s L=>?_;refine sA 2 L fun a s L=>?_;refine sv (t_mgetlev op op Ud.h (zb3 Ud.h) (⟨_,[.int .i64 0],J,by rfl,fun _ _=>J⟩:TyV Tryd.prog 3 En.fid none) (by decide) (fun | some _=>J | none=>J) J J) L fun a s L=>?_;refine sA 5 L fun a s L=>?_;refine es (wp_seq_k fun K4 H4=>?_);refine rA 2 L fun a s L=>?_;have J6:∀(own5:Int) (a:Act) (s:St),Has N0 66 s0 a s [(1,(Pi i_)),(2,(Pi level_)),(3,(Pd.ptr En.SDesc d_)),(8,(Pd.box En.SNode s0.w.heap.size g3 e1)),(9,(Pi own5))]→((zf.j1 (zf.n k_) d_ i_ level_ r_ e1) own5)→K4 a s.w:=by
  intro own5 a s L h;unfold zf.j1 at h;show K4 a s.w;refine H4 _ _ (wp_seq_k fun K7 H7=>?_);refine rA 3 L fun a s L=>?_;refine cn L h (fun h=>?_) fun h=>?_
  ·obtain ⟨r8,h9,h⟩:=h;refine ra 9 (p1 ((ih_ h9).tup)) L fun a s L=>?_;obtain ⟨h10,h11,h12,h⟩:=h;refine rs (sA 1 L fun a s L=>?_);refine sv (zbc (o_s (by decide)) op h10 J J) L fun a s L=>?_;refine sv (zbc op (o_s (by decide)) h11 J J) L fun a s L=>?_;refine sA 4 L fun a s L=>?_;refine es ?_;subst h;exact wp_ret (ret2 J L J J)
  ·refine wp_skip (H7 _ _ ?_);refine fbc 8 L fun s L=>?_;refine rs (sv (t_q (Pd.rep EnF63 (fun q_=>print_text_1.b (zf.n k_) q_.1 q_.2.1 q_.2.2.1 d_ e1 (q_.2.2.2.1,q_.2.2.2.2))) (zby (cs:=[.tmp 3,.tmp 8]) (.cons op (.cons op .nil)) (zbk Tryd.func32 J (by rfl)) (z8 zbi (z8 zbi zb4)) (fun q_ h_=>print_text_1.b_ok ih_ h_) J J)) L fun a s L=>?_);refine zz EnF63 (z:=(fun _=>False)) 13 L tyz63 J J J J fun a s g13 hg_ L=>?_;refine sB 13 L fun s L=>?_;refine es (rs ?_);refine sv (t_q (Pd.rep EnF64 (fun q_=>print_text_2.b (zf.n k_) q_.1 q_.2.1 d_ e1 (q_.2.2.1,q_.2.2.2))) (zby (cs:=[.tmp 3,.tmp 8]) (.cons op (.cons op .nil)) (zbk Tryd.func33 J (by rfl)) (z8 zbi (z8 zbi zb4)) (fun q_ h_=>print_text_2.b_ok ih_ h_) J J)) L fun a s L=>?_;have lt_d15:=L.blt 13 rfl;refine zz EnF64 (z:=(fun _=>False)) 14 L tyz64 J J J J fun a s g14 hg_ L=>?_;have d15:=Dis.newg hg_ lt_d15;refine sB 14 L fun s L=>?_;refine es (fbc 13 L fun s L=>?_);refine rs (sv (t_q (Pd.rep EnF65 (fun q_=>zbb q_.1 (fun q_=>print_text_1.b (zf.n k_) q_.1 q_.2.1 q_.2.2.1 d_ e1 (q_.2.2.2.1,q_.2.2.2.2)) (q_.2.1,q_.2.2))) (zby (cs:=[.tmp 13]) (.cons op .nil) (zbk Tryd.func34 J (by rfl)) (z8 zbi zb4) (fun q_ h_=>zd9 h_) J J)) L fun a s L=>?_);have lt_d17:=L.blt 14 rfl;refine zz EnF65 (z:=(fun _=>False)) 15 L tyz65 J J J J fun a s g16 hg_ L=>?_;have d17:=Dis.newg hg_ lt_d17;refine sB 15 L fun s L=>?_;refine es (fbc 14 L fun s L=>?_);refine fbc 15 L fun s L=>?_;refine rs (st_mkmap 49 (En.int .i64) kvI64 EnF66 L J J J J fun a s g18 hg_ L=>?_)
   refine zbr L op op (o_q (Pd.rep EnF66 (fun q_=>zcd (q_.1,q_.2))) (o_fun (zbk Tryd.func35 J (by rfl)) (fun q_ h_=>zd8 h_))) Ud.h (zb3 Ud.h) (.inr J) J J kw fun s L=>?_;refine sv (t_q (Pd.rep EnF66 (fun q_=>zcc e1 (q_.1,q_.2))) (zby (cs:=[.tmp 8]) (.cons op .nil) (zbk Tryd.func36 J (by rfl)) (z8 zbi zb4) (fun q_ h_=>zd7 h_) J J)) L fun a s L=>?_;refine zbr L op op op Ud.h (zb3 Ud.h) (.inr J) J J kw fun s L=>?_;refine sv (t_q (Pd.rep EnF66 (fun q_=>zcb e1 (q_.1,q_.2))) (zby (cs:=[.tmp 8]) (.cons op .nil) (zbk Tryd.func37 J (by rfl)) (z8 zbi zb4) (fun q_ h_=>zd6 h_) J J)) L fun a s L=>?_;refine zbr L op op op Ud.h (zb3 Ud.h) (.inr J) J J kw fun s L=>?_;refine sv (t_q (Pd.rep EnF66 (fun q_=>zca (fun q_=>print_text_2.b (zf.n k_) q_.1 q_.2.1 d_ e1 (q_.2.2.1,q_.2.2.2)) (q_.1,q_.2))) (zby (cs:=[.tmp 14]) (.cons op .nil) (zbk Tryd.func38 J (by rfl)) (z8 zbi zb4) (fun q_ h_=>zd5 h_) J J)) L fun a s L=>?_;refine zbr L op op op Ud.h (zb3 Ud.h) (.inr J) J J kw fun s L=>?_;refine sv (t_q (Pd.rep EnF66 (fun q_=>zb9 (fun q_=>print_text_2.b (zf.n k_) q_.1 q_.2.1 d_ e1 (q_.2.2.1,q_.2.2.2)) (q_.1,q_.2))) (zby (cs:=[.tmp 14]) (.cons op .nil) (zbk Tryd.func39 J (by rfl)) (z8 zbi zb4) (fun q_ h_=>zd4 h_) J J)) L fun a s L=>?_;refine zbr L op op op Ud.h (zb3 Ud.h) (.inr J) J J kw fun s L=>?_;refine sv (t_q (Pd.rep EnF66 (fun q_=>zb8 (fun q_=>print_text_1.b (zf.n k_) q_.1 q_.2.1 q_.2.2.1 d_ e1 (q_.2.2.2.1,q_.2.2.2.2)) (q_.1,q_.2))) (zby (cs:=[.tmp 13]) (.cons op .nil) (zbk Tryd.func40 J (by rfl)) (z8 zbi zb4) (fun q_ h_=>zd3 h_) J J)) L fun a s L=>?_
   refine zbr L op op op Ud.h (zb3 Ud.h) (.inr J) J J kw fun s L=>?_;refine sv (t_q (Pd.rep EnF66 (fun q_=>zbv (fun q_=>print_text_1.b (zf.n k_) q_.1 q_.2.1 q_.2.2.1 d_ e1 (q_.2.2.2.1,q_.2.2.2.2)) e1 (q_.1,q_.2))) (zby (cs:=[.tmp 13,.tmp 8]) (.cons op (.cons op .nil)) (zbk Tryd.func41 J (by rfl)) (z8 zbi (z8 zbi zb4)) (fun q_ h_=>zdt h_) J J)) L fun a s L=>?_;refine zbr L op op op Ud.h (zb3 Ud.h) (.inr J) J J kw fun s L=>?_;refine sv (t_q (Pd.rep EnF66 (fun q_=>zbu (fun q_=>zbb q_.1 (fun q_=>print_text_1.b (zf.n k_) q_.1 q_.2.1 q_.2.2.1 d_ e1 (q_.2.2.2.1,q_.2.2.2.2)) (q_.2.1,q_.2.2)) (q_.1,q_.2))) (zby (cs:=[.tmp 15]) (.cons op .nil) (zbk Tryd.func43 J (by rfl)) (z8 zbi zb4) (fun q_ h_=>zds h_) J J)) L fun a s L=>?_;refine zbr L op op op Ud.h (zb3 Ud.h) (.inr J) J J kw fun s L=>?_;refine sv (t_q (Pd.rep EnF66 (fun q_=>zbt (fun q_=>zbb q_.1 (fun q_=>print_text_1.b (zf.n k_) q_.1 q_.2.1 q_.2.2.1 d_ e1 (q_.2.2.2.1,q_.2.2.2.2)) (q_.2.1,q_.2.2)) (q_.1,q_.2))) (zby (cs:=[.tmp 15]) (.cons op .nil) (zbk Tryd.func44 J (by rfl)) (z8 zbi zb4) (fun q_ h_=>zdr h_) J J)) L fun a s L=>?_;refine zbr L op op op Ud.h (zb3 Ud.h) (.inr J) J J kw fun s L=>?_;refine sA 2 L fun a s L=>?_;refine es ?_;obtain ⟨r19,h20,h⟩:=h;refine rs (sA 3 L fun a s L=>?_);refine sv (t_mget op op Ud.h (zb3 Ud.h) tyv66 J J) L fun a s L=>?_;refine sv (zcq (q:=(r19.1,r19.2)) op h20 opz (fun _ _ _ h_=>zdh h_) J J) L fun a s L=>?_;refine sA 4 L fun a s L=>?_;refine es ?_;subst h;exact wp_ret (ret2 J L J J)
 refine cn L h (fun h=>?_) fun h=>?_
 ·refine rg ?_;refine sA 1 L fun a s L=>?_;refine en' ?_;exact J6 3 a s (L.kk) h
 ·refine wp_skip ?_;exact J6 (lvI (zcf gfm0 e1.1 none)) a s (L.kk) h
theorem zc7 {d_:SDesc} {i_:Int} {level_:Int} {r_:(Str × Int)} (h:zf d_ i_ level_ r_):Fn Tryd.prog 21 [(Pd.rep En.SDesc d_),(Pi i_),(Pi level_)] (Rq2 (Pd.rep En.str r_.1) (Pi r_.2)):=by
 obtain ⟨k_,h⟩:=h;exact zf.n_ok k_ h
theorem zc9 {d_:SDesc} {r_:Str} (h:zbn d_ r_):Fn Tryd.prog 9 [(Pd.rep En.SDesc d_)] (Rq (Pd.rep En.str r_)):=by
 unfold zbn at h;refine zbe Tryd.func9 J Tryd.ntmps9 (by rfl) (by simp) fun s0 a L=>?_;refine rs (sA 1 L fun a s L=>?_);refine sv (zr (o_s (by decide)) J J) L fun a s L=>?_;refine es ?_;obtain ⟨h1,r2,h3,h⟩:=h;refine ra 11 (p1 ((zc7 h3).tup)) L fun a s L=>?_;refine rA 2 L fun a s L=>?_;subst h;exact wp_ret (zcy J L J)
theorem zw {d_:SDesc} {r_:Int} (h:zo d_ r_):Fn Tryd.prog 11 [(Pd.rep En.SDesc d_)] (Rq (Pi r_)):=by
 unfold zo at h;refine zbe Tryd.func11 J Tryd.ntmps11 (by rfl) (by simp) fun s0 a L=>?_;refine rA 2 L fun a s L=>?_;obtain ⟨h1,r2,h3,h⟩:=h;refine ra 11 (p1 ((zc7 h3).tup)) L fun a s L=>?_;refine rA 2 L fun a s L=>?_;subst h;exact wp_ret (zcy J L J)
theorem zcz  {r_:Bool} (h:zb2  r_):Fn Tryd.prog 6 [] (Rq (Pd.rep En.bool r_)):=by
 unfold zb2 at h;refine zbe Tryd.func6 J Tryd.ntmps6 (by rfl) (by simp) fun s0 a L=>?_;refine rA 1 L fun a s L=>?_;obtain ⟨r1,h2,h⟩:=h;refine rs (sl 1 (p1 (zdl h2)) L fun a s L=>?_);refine sv (zc0 (x:=(2,0,0,0,0,r1,([]:Str))) (ps:=[(0,.const (.int .i64 2)),(5,.tmp 5)]) tyz43 J stt43 (.cons (i:=0) op J (z7 (zu _ _ _)) (.cons (i:=5) op J (zi (zi (zi (zi (zi (z7 (zu _ _ _)) J) J) J) J) J) .nil)) J J) L fun a s L=>?_;refine sA 1 L fun a s L=>?_;refine sv (zc0 (x:=[(2,0,0,0,0,r1,([]:Str))]) (ps:=[(0,.tmp 7)]) zey J stt24 (.cons (i:=0) op J (zez (zu _ _ _)) .nil) J J) L fun a s L=>?_;refine zz En.SDesc (z:=[]) 1 L zey J J J J fun a s g3 hg_ L=>?_;refine sB 1 L fun s L=>?_;refine es ?_;obtain ⟨r4,h5,h⟩:=h;refine rs (sl 3 (p1 (zcl h5)) L fun a s L=>?_);have lt_d7:=L.blt 1 rfl;refine zz En.SDesc (z:=[]) 2 L zey J J J J fun a s g6 hg_ L=>?_;have d7:=Dis.newg hg_ lt_d7;refine sB 2 L fun s L=>?_;refine es ?_;obtain ⟨r8,h9,h⟩:=h;refine rs (sl 2 (p1 (zbs h9)) L fun a s L=>?_);have lt_d12:=L.blt 2 rfl;have lt_d11:=L.blt 1 rfl;refine zz En.SDesc (z:=[]) 3 L zey J J J J fun a s g10 hg_ L=>?_;have d11:=Dis.newg hg_ lt_d11;have d12:=Dis.newg hg_ lt_d12;refine sB 3 L fun s L=>?_;refine es ?_;obtain ⟨r13,h14,h⟩:=h;refine rs (sl 2 (p1 (zbs h14)) L fun a s L=>?_);have lt_d17:=L.blt 3 rfl;have lt_d16:=L.blt 1 rfl;refine zz En.SDesc (z:=[]) 4 L zey J J J J fun a s g15 hg_ L=>?_;have d16:=Dis.newg hg_ lt_d16;have d17:=Dis.newg hg_ lt_d17;replace L:=L.dr (some g6);refine sB 4 L fun s L=>?_;refine es ?_
 obtain ⟨r18,h19,r20,h21,b22,h23,r24,h25,b26,h27,r28,h29,r30,h31,r32,h33,b34,h35,r36,h37,r38,h39,b40,h41,r42,h43,h⟩:=h;refine rs (sl 2 (p1 (zc9 h19)) L fun a s L=>?_);refine sv (t_eqv zeg op (o_s (by decide)) J J) L fun a s L=>?_;refine sl 8 (pp (fun hc_=>(zw (h21 hc_))) (pp h23 (pp (fun hc_=>(zc9 (h25 hc_))) trivial))) L fun a s L=>?_;refine sv (h27 ▸ (t_g1 J J J (fun hc_=>t_eqv zeg (opc hc_) (o_s (by decide)) J J))) L fun a s L=>?_;refine sl 9 (pp (fun hc_=>(zw (h29 hc_))) (pp (fun hc_=>(zdl (h31 hc_))) (pp (fun hc_=>(zbp (h33 hc_))) trivial))) L fun a s L=>?_;refine sv (t_g1 J J J (fun hc_=>t_eqv zeg (opc hc_) (o_s (by decide)) J J)) L fun a s L=>?_;refine sl 2 (p1 h35) L fun a s L=>?_;refine sv (t_g1 J J J (fun hc_=>t_bcls (x:=(0#256)) Ud.h (by rfl) tyz27 (fun _=>by kernel_rfl) J J)) L fun a s L=>?_;refine sl 1 (pp (fun hc_=>(zbp (h37 hc_))) trivial) L fun a s L=>?_;refine sv (t_g1 J J J (fun hc_=>t_eqv zeg (opc hc_) (o_s (by decide)) J J)) L fun a s L=>?_;refine sA 2 L fun a s L=>?_;refine sv (t_g1 J J J (fun hc_=>t_bcls (x:=(Cl.ofWords 5 0 0 0)) Ud.h (by rfl) tyz27 (fun _=>by kernel_rfl) J J)) L fun a s L=>?_;refine sl 1 (pp (fun hc_=>(zbp (h39 hc_))) trivial) L fun a s L=>?_;refine sv (t_g1 J J J (fun hc_=>t_eqv zeg (opc hc_) (o_s (by decide)) J J)) L fun a s L=>?_;refine sl 7 (pp h41 (pp (fun hc_=>(zw (h43 hc_))) trivial)) L fun a s L=>?_;refine es ?_;subst h;exact wp_ret (zcy J L J)
theorem law06_PrintDeep_ok {a_:SDesc} {b_:SDesc} {r_:Bool} (h:zd a_ b_ r_):Fn Tryd.prog 5 [(Pd.rep En.SDesc a_),(Pd.rep En.SDesc b_)] (Rq (Pd.rep En.bool r_)):=by
 unfold zd at h;refine zbe Tryd.func5 J Tryd.ntmps5 (by rfl) (by simp) fun s0 a L=>?_;refine rA 3 L fun a s L=>?_;refine wp_seq_k fun K1 H1=>?_;obtain ⟨r2,h3,r4,h5,r6,h7,r8,h9,r10,h11,h⟩:=h;refine ra 22 (pp (zcz h3) (pp (fun hc_=>(zdk (h5 hc_))) (pp (fun hc_=>(zdk (h7 hc_))) (pp (fun hc_=>(zc6 (h9 hc_))) (pp (fun hc_=>(zc6 (h11 hc_))) trivial))))) L fun a s L=>?_;refine cn L h (fun h=>?_) fun h=>?_
 ·obtain ⟨r12,h13,h⟩:=h;refine ra 2 (p1 (zcz h13)) L fun a s L=>?_;subst h;exact wp_ret (zcy J L J)
 ·refine wp_skip (H1 _ _ ?_);obtain ⟨r14,h15,h⟩:=h;refine ra 3 (p1 (zw h15)) L fun a s L=>?_;obtain ⟨r16,h17,h⟩:=h;refine ra 3 (p1 (zw h17)) L fun a s L=>?_;obtain ⟨h18,e19,h20,h⟩:=h;refine ra 10 (p1 h20) L fun a s L=>?_;obtain ⟨h21,e22,h23,h⟩:=h;refine ra 10 (p1 h23) L fun a s L=>?_;refine rA 1 L fun a s L=>?_;refine wp_seq_k fun K24 H24=>rA 2 L fun a s L=>?_;have J26:∀(left25:Int) (a:Act) (s:St),Has N0 115 s0 a s [(2,(Pd.ptr En.SDesc a_)),(3,(Pd.ptr En.SDesc b_)),(5,(Pi r14)),(6,(Pi r16)),(7,(Pi e19.1)),(8,(Pi e22.1)),(9,(Pi left25))]→((zd.j4 a_ b_ r_ r14 r16 e19 e22) left25)→K24 a s.w:=by
   intro left25 a s L h;unfold zd.j4 at h;show K24 a s.w;refine H24 _ _ (rA 1 L fun a s L=>?_);refine wp_seq_k fun K27 H27=>rA 6 L fun a s L=>?_;have J29:∀(right28:Int) (a:Act) (s:St),Has N0 115 s0 a s [(2,(Pd.ptr En.SDesc a_)),(3,(Pd.ptr En.SDesc b_)),(5,(Pi r14)),(6,(Pi r16)),(7,(Pi e19.1)),(8,(Pi e22.1)),(9,(Pi left25)),(10,(Pi right28))]→((zd.j3 a_ b_ r_ r14 r16 e19 e22 left25) right28)→K27 a s.w:=by
    intro right28 a s L h;unfold zd.j3 at h;show K27 a s.w;refine H27 _ _ (rA 1 L fun a s L=>?_);refine wp_seq_k fun K30 H30=>rA 2 L fun a s L=>?_;have J32:∀(or31:Int) (a:Act) (s:St),Has N0 115 s0 a s [(2,(Pd.ptr En.SDesc a_)),(3,(Pd.ptr En.SDesc b_)),(5,(Pi r14)),(6,(Pi r16)),(7,(Pi e19.1)),(9,(Pi left25)),(10,(Pi right28)),(11,(Pi or31))]→((zd.j2 a_ b_ r_ r14 r16 e19 left25 right28) or31)→K30 a s.w:=by
     intro or31 a s L h;unfold zd.j2 at h;show K30 a s.w;refine H30 _ _ (rA 1 L fun a s L=>?_);refine wp_seq_k fun K33 H33=>rA 6 L fun a s L=>?_;have J35:∀(star34:Int) (a:Act) (s:St),Has N0 115 s0 a s [(2,(Pd.ptr En.SDesc a_)),(3,(Pd.ptr En.SDesc b_)),(5,(Pi r14)),(6,(Pi r16)),(9,(Pi left25)),(10,(Pi right28)),(11,(Pi or31)),(12,(Pi star34))]→((zd.j1 a_ b_ r_ r14 r16 left25 right28 or31) star34)→K33 a s.w:=by
      intro star34 a s L h;unfold zd.j1 at h;show K33 a s.w;refine H33 _ _ ?_;obtain ⟨r36,h37,r38,h39,h40,r41,h42,r43,h44,h45,b46,h47,r48,h49,r50,h51,h52,h53,b54,h55,r56,h57,r58,h59,h60,h⟩:=h;refine ra 42 (pp (zbs h37) (pp (zw h39) (pp (fun hc_=>(zcl (h42 hc_))) (pp (fun hc_=>(zw (h44 hc_))) (pp h47 (pp (fun hc_=>(zcl (h49 hc_))) (pp (fun hc_=>(zw (h51 hc_))) (pp h55 (pp (fun hc_=>(zbs (h57 hc_))) (pp (fun hc_=>(zw (h59 hc_))) trivial)))))))))) L fun a s L=>?_;subst h;exact wp_ret (zcy J L J)
     refine cn L h (fun h=>?_) fun h=>?_
     ·refine rg ?_;refine sA 1 L fun a s L=>?_;refine en' ?_;exact J35 1 a s (L.kk) h
     ·refine wp_skip ?_;exact J35 0 a s (L.kk) h
    refine cn L h (fun h=>?_) fun h=>?_
    ·refine rg ?_;refine sA 1 L fun a s L=>?_;refine en' ?_;exact J32 1 a s (L.kk) h
    ·refine wp_skip ?_;exact J32 0 a s (L.kk) h
   refine cn L h (fun h=>?_) fun h=>?_
   ·refine rg ?_;refine sA 1 L fun a s L=>?_;refine en' ?_;exact J29 1 a s (L.kk) h
   ·refine wp_skip ?_;exact J29 0 a s (L.kk) h
  refine cn L h (fun h=>?_) fun h=>?_
  ·refine rg ?_;refine sA 1 L fun a s L=>?_;refine en' ?_;exact J26 1 a s (L.kk) h
  ·refine wp_skip ?_;exact J26 0 a s (L.kk) h
theorem dt {p:Prop} [Decidable p] (h:decide p=true):p:=of_decide_eq_true h
theorem df {p:Prop} [Decidable p] (h:decide p=false):¬ p:=of_decide_eq_false h
theorem upto {σ:Type} {P:Nat→σ→Int→Prop} (n:Nat) (I:Nat→σ→Prop)
  (hs:∀i s,i<n→I i s→(∀k,P (k+1) s (i:Int))∨∃s',I (i+1) s'∧∀k,P k s' ((i:Int)+1)→P (k+1) s (i:Int))
  (hx:∀s,I n s→∀k,P (k+1) s (n:Int)) (s:σ) (h:I 0 s):∃k,P k s 0:=by
 have:∀m i s,i+m=n→I i s→∃k,P k s (i:Int):=by
  intro m
  induction m with
  | zero=>intro i s hi hI;have:i=n:=by omega
          subst this;exact ⟨1,hx s hI 0⟩
  | succ m ih=>
   intro i s hi hI;rcases hs i s (by omega) hI with h | ⟨s',h1,h2⟩
   ·exact ⟨1,h 0⟩
   ·obtain ⟨k,hk⟩:=ih (i+1) s' (by omega) h1;exact ⟨k+1,h2 k (by simpa using hk)⟩
 simpa using this n 0 s (by omega) h
theorem run {σ:Type} {P:Nat→σ→Prop} (I:σ→Prop) (μ:σ→Nat) (h:∀s,I s→(∀k,P (k+1) s)∨∃s',I s'∧μ s' < μ s∧∀k,P k s'→P (k+1) s) (s:σ) (hI:I s):∃k,P k s:=by
 have:∀m s,μ s<m→I s→∃k,P k s:=by
  intro m
  induction m with
  | zero=>intro s hs;omega
  | succ m ih=>
   intro s hs hI;rcases h s hI with h1 | ⟨s',h1,h2,h3⟩
   ·exact ⟨1,h1 0⟩
   ·obtain ⟨k,hk⟩:=ih s' (by omega) h1;exact ⟨k+1,h3 k hk⟩
 exact this (μ s+1) s (by omega) hI
theorem zk {x:Int} (h1:-9223372036854775808≤x) (h2:x≤9223372036854775807):InR .i64 x:=inR_i64.2 ⟨h1,h2⟩
theorem zde {α:Type} {xs:List α} {i:Nat}:at? xs (i:Int)=xs[i]?:=by
 unfold at?;rw [if_pos (by omega)];simp
theorem has_w {a:Cl} {n:Nat} (h:n<256):a.has n=(a.word (n / 64)).testBit (n % 64):=by
 rw [Cl.word_bit];simp [Nat.mod_lt,Nat.div_add_mod]
theorem setw_word {a:Cl} {i:Nat} {v:Int} (hv:v.toNat<2 ^ 64) (j:Nat) (hj:j<4):(a.setw (i:Int) v).word j=if j=i then v.toNat else a.word j:=by
 unfold Cl.setw;have hw:∀k,a.word k<2 ^ 64:=a.word_lt;have hb:∀(c:Prop) [Decidable c] (k:Nat),(if c then v.toNat else a.word k)<2 ^ 64:=fun c _ k=>by split <;> simp_all
 obtain ⟨h0,h1,h2,h3⟩:=Cl.ofWords_word (hb ((i:Int)=0) 0) (hb ((i:Int)=1) 1) (hb ((i:Int)=2) 2) (hb ((i:Int)=3) 3)
 match j,hj with
 | 0,_=>rw [h0];split <;> split <;> first | rfl | omega
 | 1,_=>rw [h1];split <;> split <;> first | rfl | omega
 | 2,_=>rw [h2];split <;> split <;> first | rfl | omega
 | 3,_=>rw [h3];split <;> split <;> first | rfl | omega
theorem shr_bit {w k:Nat} (hk:k<64):(andI (shrI (w:Int) (k:Int)) 1==1)=w.testBit k:=by
 unfold andI shrI;rw [show min ((k:Int)).toNat 64=k by simp;omega];have h:((w:Int) / 2 ^ k).toNat=w / 2 ^ k:=by
  rw [show ((2:Int) ^ k)=((2 ^ k:Nat):Int) by simp,← Int.natCast_ediv];exact Int.toNat_natCast _
 rw [h];simp only [Int.toNat_one,Nat.and_one_is_mod,Nat.testBit_eq_decide_div_mod_eq];have:=Nat.mod_two_eq_zero_or_one (w / 2 ^ k);rcases this with h | h <;> rw [h] <;> rfl
def Cl.row (f t:Int):Cl:=Cl.of fun n=>decide (f≤(n:Int))&&decide ((n:Int)≤t)
theorem has_row {f t:Int} {n:Nat} (h:n<256):(Cl.row f t).has n=(decide (f≤(n:Int))&&decide ((n:Int)≤t)):=Cl.of_has _ h
def Cl.count (a:Cl):Nat:=(List.range 256).countP a.has
theorem u8_of {c:Int} (h:InR .u8 c):∃n:Nat,n<256∧c=n:=by
 rw [inR_u8] at h;exact ⟨c.toNat,by omega,by omega⟩
def Cl.ofL (l:List Bool):Cl:=Cl.of fun n=>l.getD n false
theorem has_ofL {l:List Bool} {n:Nat} (h:n<256):(Cl.ofL l).has n=l.getD n false:=Cl.of_has _ h
theorem at_in {α:Type} {xs:List α} {i:Int} (h0:0≤i) (h1:i<(xs.length:Int)):∃x,at? xs i=some x∧x∈xs:=by
 refine ⟨xs[i.toNat]'(by omega), ?_,List.getElem_mem _⟩;unfold at?;rw [if_pos h0];exact List.getElem?_eq_getElem _
theorem at_nn {α:Type} {l:List α} {i:Int} {x:α} (h:at? l i=some x):∃k:Nat,i=(k:Int)∧l[k]?=some x:=by
 unfold at? at h;split at h
 ·exact ⟨i.toNat,by omega,h⟩
 ·cases h
theorem zco {α:Type} {d:List α} {i:Int} {n:α} (hn:at? d i=some n):0≤i∧i<(d.length:Int):=by
 obtain ⟨j,rfl,hj⟩:=at_nn hn;have:=(List.getElem?_eq_some_iff.1 hj).1;omega
theorem exl {ρ:Type} {γ:Sort _} {P:γ→ρ→Prop} (c:γ) (h:∃r,P c r):∃r,∃c,P c r:=let ⟨r,h⟩:=h;⟨r,c,h⟩
theorem zdq {ρ:Type} {A:Prop} {B:ρ→Prop} (a:A) (h:∃r,B r):∃r,A∧B r:=let ⟨r,h⟩:=h;⟨r,a,h⟩
theorem pick {ρ:Type} [Inhabited ρ] {b:Bool} {X Y:ρ→Prop} (h1:b=true→∃r,X r) (h2:b=false→∃r,Y r):∃r,(b=true→X r)∧(b=false→Y r):=by
 cases b
 ·obtain ⟨r,h⟩:=h2 rfl;exact ⟨r,(fun h=>by cases h),fun _=>h⟩
 ·obtain ⟨r,h⟩:=h1 rfl;exact ⟨r,fun _=>h,(fun h=>by cases h)⟩
def sumT (l:List SNode):Nat:=(l.map fun n=>n.2.2.2.2.2.2.length).sum
theorem sumT_le {l:List SNode} (h:∀n∈l,n.2.2.2.2.2.2.length≤140737488351232):sumT l≤l.length*140737488351232:=by
 induction l with
 | nil=>simp [sumT]
 | cons x l ih=>
  have h1:=h x (by simp);have h2:=ih fun n hn=>h n (by simp [hn]);simp only [sumT,List.map_cons,List.sum_cons,List.length_cons] at h2 ⊢;omega
theorem few_ex {d:List SNode} (ht:∀n∈d,n.2.2.2.2.2.2.length≤140737488351232):∃r,zq d r∧(r=true→d.length≤100):=by
 refine ⟨decide ((d.length:Int)≤100)&&decide (((sumT (d.take (min d.length 200)):Nat):Int)≤2000), ?_,fun h=>?_⟩
 ·refine upto (P:=fun k (s:Int) v=>zq.l1 d _ k s v) (min d.length 200) (fun i s=>s=((sumT (d.take i):Nat):Int)) ?_ ?_ _ (by simp [sumT])
  ·rintro i s hi rfl;have hd:i<d.length:=by omega
   have h1:=sumT_le (l:=d.take i) fun n hn=>ht n (List.mem_of_mem_take hn);have h2:=ht _ (List.getElem_mem hd);have h3:(d.take i).length=i:=by simp;omega
   rw [h3] at h1;have h4:i*140737488351232≤200*140737488351232:=Nat.mul_le_mul_right _ (by omega);have e:sumT (d.take (i+1))=sumT (d.take i)+d[i].2.2.2.2.2.2.length:=by
    unfold sumT;rw [List.take_succ_eq_append_getElem hd,List.map_append,List.sum_append];simp only [List.map_cons,List.map_nil,List.sum_cons,List.sum_nil,Nat.add_zero]
   refine .inr ⟨_,rfl,fun k h=>⟨true,by simp;omega,fun _=>⟨d[i],by rw [zde];simp [hd],zk (by omega) (by omega),zk (by omega) (by omega), ?_⟩,(fun h=>by cases h)⟩⟩;rw [e] at h;simpa using h
  ·rintro s rfl k;exact ⟨false,by simp;omega,(fun h=>by cases h),fun _=>⟨_,rfl,rfl⟩⟩
 ·simp only [Bool.and_eq_true,decide_eq_true_eq] at h;omega
theorem byte_in {s:Str} {i:Int} (h0:0≤i) (h1:i<(s.length:Int)):∃c,zej s i=some c:=by
 obtain ⟨x,hx,_⟩:=at_in h0 h1;exact ⟨_,by unfold zej;rw [hx];rfl⟩
theorem in_ex (s:Str) {i:Int} (f t:Int) (h0:0≤i):∃r,zbo s i f t r:=by
 by_cases h1:i<(s.length:Int)
 ·obtain ⟨c,hc⟩:=byte_in h0 h1;exact ⟨_,c,fun _=>hc,_,rfl,c,fun _=>hc,rfl⟩
 ·exact ⟨_,0,fun h=>absurd (dt h) h1,_,rfl,0,fun h=>absurd h (by simp [h1]),rfl⟩
theorem utf8_ex {s:Str} (hl:s.length≤140737488351232):∃r,zg s r:=by
 have key:∀(m:Nat) (i:Int),0≤i→(s.length:Int)+4-i≤m→i≤(s.length:Int)+4→∃q:Bool × Nat,zg.l1 s q.1 (zg.j1 q.1) q.2 i:=by
  intro m
  induction m with
  | zero=>
   intro i h0 h1 h2;exact ⟨(true,1),fun h=>absurd (dt h) (by omega),fun _=>rfl⟩
  | succ m ih=>
   intro i h0 h1 h2
   suffices h:∃q:Bool × Nat,zg.l1 s q.1 (zg.j1 q.1) (q.2+1) i by
    obtain ⟨q,hq⟩:=h;exact ⟨(q.1,q.2+1),hq⟩
   unfold zg.l1;refine pick (fun hd=>?_) (fun hd=>⟨(true,0),rfl⟩);have hlt:=dt hd;obtain ⟨c,hc⟩:=byte_in h0 hlt;obtain ⟨r17,h17⟩:=in_ex s (i:=i+1) 128 191 (by omega);obtain ⟨r21,h21⟩:=in_ex s (i:=i+2) 128 191 (by omega);obtain ⟨r25,h25⟩:=in_ex s (i:=i+3) 128 191 (by omega);obtain ⟨r35,h35⟩:=in_ex s (i:=i+1) 160 191 (by omega);obtain ⟨r44,h44⟩:=in_ex s (i:=i+1) 128 159 (by omega);obtain ⟨r49,h49⟩:=in_ex s (i:=i+1) 144 191 (by omega);obtain ⟨r58,h58⟩:=in_ex s (i:=i+1) 128 143 (by omega);have i1:InR .i64 (i+1):=zk (by omega) (by omega);have i2:InR .i64 (i+2):=zk (by omega) (by omega);have i3:InR .i64 (i+3):=zk (by omega) (by omega);have i4:InR .i64 (i+4):=zk (by omega) (by omega);have g1:=ih (i+1) (by omega) (by omega) (by omega);have g2:=ih (i+2) (by omega) (by omega) (by omega);have g3:=ih (i+3) (by omega) (by omega) (by omega);have g4:=ih (i+4) (by omega) (by omega) (by omega);refine exl c (zdq hc (zdq i1 (exl r17 (zdq h17 (zdq i2 (exl r21 (zdq h21 (zdq i3 (exl r25 (zdq h25 (pick (fun _=>zdq i1 g1) (fun _=>?_))))))))))));refine exl _ (zdq rfl (pick (fun _=>zdq i2 g2) (fun _=>?_)));refine zdq (fun _=>i1) (exl r35 (zdq (fun _=>h35) (pick (fun _=>zdq i3 g3) (fun _=>?_))));refine exl _ (zdq rfl (pick (fun _=>zdq i3 g3) (fun _=>?_)));refine zdq (fun _=>i1) (exl r44 (zdq (fun _=>h44) (pick (fun _=>zdq i3 g3) (fun _=>?_))));refine zdq (fun _=>i1) (exl r49 (zdq (fun _=>h49) (pick (fun _=>zdq i4 g4) (fun _=>?_))));refine exl _ (zdq rfl (pick (fun _=>zdq i4 g4) (fun _=>?_)));refine zdq (fun _=>i1) (exl r58 (zdq (fun _=>h58) (pick (fun _=>zdq i4 g4) (fun _=>?_))))
   exact ⟨(false,0),rfl⟩
 obtain ⟨q,hq⟩:=key (s.length+4) 0 (by omega) (by omega) (by omega);exact ⟨q.1,q.2,hq⟩
theorem text_ex {s:Str} (hl:s.length≤140737488351232):∃r,zm s r∧(r=true→s≠[]∧∀b∈s,b≠34):=by
 obtain ⟨u,hu⟩:=utf8_ex hl;have tne:∀u:Bool,(decide (0<(s.length:Int))&&u)=true→s≠[]:=fun u h e=>by subst e;simp at h
 have key:∀(m:Nat) (i:Nat),s.length-i≤m→i≤s.length→(∀b∈s.take i,b≠34)→∃q:Bool × Nat,zm.l1 s q.1 (zm.j1 s q.1) q.2 (i:Int)∧(q.1=true→s≠[]∧∀b∈s,b≠34):=by
  intro m
  induction m with
  | zero=>
   intro i h1 h2 h3;rw [List.take_of_length_le (by omega)] at h3;exact ⟨(decide (0<(s.length:Int))&&u,1),⟨fun h=>absurd (dt h) (by omega),fun _=>⟨u,fun _=>hu,rfl⟩⟩,fun h=>⟨tne u h,h3⟩⟩
  | succ m ih=>
   intro i h1 h2 h3
   by_cases hlt:i<s.length
   ·have hat:at? s (i:Int)=some s[i]:=by rw [zde];exact List.getElem?_eq_getElem hlt
    have hc:zej s (i:Int)=some (s[i].toNat:Int):=by unfold zej;rw [hat];rfl
    by_cases h34:(s[i].toNat:Int)=34
    ·exact ⟨(false,1),⟨fun _=>⟨_,hc,fun _=>rfl,fun h=>by simp [h34] at h⟩,fun h=>absurd (by omega) (df h)⟩,(fun h=>by cases h)⟩
    ·obtain ⟨q,hq,hq2⟩:=ih (i+1) (by omega) (by omega) (fun b hb=>by
      rw [List.take_succ_eq_append_getElem hlt,List.mem_append,List.mem_singleton] at hb;rcases hb with hb | rfl
      ·exact h3 b hb
      ·intro e;rw [e] at h34;exact h34 (by decide))
     exact ⟨(q.1,q.2+1),⟨fun _=>⟨_,hc,fun h=>by simp at h;exact absurd h (by omega),fun _=>⟨zk (by omega) (by omega),hq⟩⟩,fun h=>absurd (by omega) (df h)⟩,hq2⟩
   ·rw [List.take_of_length_le (by omega)] at h3;exact ⟨(decide (0<(s.length:Int))&&u,1),⟨fun h=>absurd (dt h) (by omega),fun _=>⟨u,fun _=>hu,rfl⟩⟩,fun h=>⟨tne u h,h3⟩⟩
 obtain ⟨q,hq,hq2⟩:=key s.length 0 (by omega) (by omega) (by simp);exact ⟨q.1,⟨q.2,hq⟩,hq2⟩
inductive Tr (l:List SNode):Int→Int→Prop
 | leaf {i:Int} {e:SNode} (he:at? l i=some e) (hk:e.1=1∨e.1=2∨e.1=3) (hx:e.1=3→e.2.2.2.2.2.2≠[]∧∀b∈e.2.2.2.2.2.2,b≠34) (h0:e.2.1=0∧e.2.2.1=0):Tr l i i
 | one {f i:Int} {e:SNode} (he:at? l i=some e) (hk:e.1=6∨e.1=7∨e.1=8∨e.1=9) (ha:e.2.1=i-1) (hb:e.2.2.1=0) (hr:e.1=7→0≤e.2.2.2.1∧e.2.2.2.1≤e.2.2.2.2.1∧e.2.2.2.2.1≤255) (h:Tr l f (i-1)):Tr l f i
 | two {f p i:Int} {e:SNode} (he:at? l i=some e) (hk:e.1=4∨e.1=5) (ha:e.2.1=p-1) (hb:e.2.2.1=i-1) (h1:Tr l p (i-1)) (h2:Tr l f (p-1)):Tr l f i
theorem Tr.le {l:List SNode} {f i:Int} (h:Tr l f i):0≤f∧f≤i:=by
 induction h with
 | leaf he _ _ _=>exact ⟨(zco he).1,Int.le_refl _⟩
 | one _ _ _ _ _ _ ih=>omega
 | two _ _ _ _ _ _ i1 i2=>omega
theorem Tr.lt {l:List SNode} {f i:Int} (h:Tr l f i):i<(l.length:Int):=by
 cases h with
 | leaf he _ _ _=>exact (zco he).2
 | one he _ _ _ _ _=>exact (zco he).2
 | two he _ _ _ _ _=>exact (zco he).2
theorem Tr.sub {l:List SNode} {f i:Int} (h:Tr l f i):∀k,f≤k→k≤i→∃g,Tr l g k∧f≤g:=by
 induction h with
 | leaf he hk hx h0=>
  rename_i i e
  intro k h1 h2;obtain rfl:k=i:=by omega
  exact ⟨k,.leaf he hk hx h0,Int.le_refl _⟩
 | one he hk ha hb hr h ih=>
  rename_i f i e
  intro k h1 h2
  by_cases hki:k=i
  ·subst hki;exact ⟨f,.one he hk ha hb hr h,Int.le_refl _⟩
  ·exact ih k h1 (by omega)
 | two he hk ha hb h1 h2 i1 i2=>
  rename_i f p i e
  intro k k1 k2;have l1:=h1.le;have l2:=h2.le
  by_cases hki:k=i
  ·subst hki;exact ⟨f,.two he hk ha hb h1 h2,Int.le_refl _⟩
  ·by_cases hkp:p≤k
   ·obtain ⟨g,g1,g2⟩:=i1 k hkp (by omega);exact ⟨g,g1,by omega⟩
   ·exact i2 k k1 (by omega)
def zdg (l:List SNode) (i r:Int):Prop:=r = -1∨Tr l r i
theorem first_ex {l:List SNode} (hl:l.length≤1000) (ht:∀n∈l,n.2.2.2.2.2.2.length≤140737488351232):∀(m:Nat) (i:Int),i<(m:Int)→-1≤i→i<(l.length:Int)→∃r,zb.n (m+1) l i r∧zdg l i r:=by
 intro m
 induction m with
 | zero=>
  intro i h1 h2 h3;exact ⟨-1,⟨fun _=>rfl,fun h=>absurd (by omega) (df h)⟩,.inl rfl⟩
 | succ m ih=>
  intro i h1 h2 h3
  by_cases h0:i<0
  ·exact ⟨-1,⟨fun _=>rfl,fun h=>absurd h0 (df h)⟩,.inl rfl⟩
  ·obtain ⟨e,he,hm⟩:=at_in (xs:=l) (i:=i) (by omega) h3;have i1:InR .i64 (i-1):=zk (by omega) (by omega);obtain ⟨p,hp,hpo⟩:=ih (i-1) (by omega) (by omega) (by omega);have one:∀w:SNode,(e=w→w.2.1=i-1∧(w.1=6∨w.1=7∨w.1=8∨w.1=9)∧(w.1=7→0≤w.2.2.2.1∧w.2.2.2.1≤w.2.2.2.2.1∧w.2.2.2.2.1≤255)∧w.2.2.1=0)→∃r,zb.j1 (zb.n (m+1)) l i r e w∧zdg l i r:=by
    intro w hw
    by_cases hew:e=w
    ·refine ⟨p,⟨i1,p,hp,fun h=>by simp [hew] at h,fun _=>rfl⟩, ?_⟩;rcases hpo with rfl | p0
     ·exact .inl rfl
     ·obtain ⟨w1,w2,w3,w4⟩:=hw hew;exact .inr (.one he (by rw [hew];exact w2) (by rw [hew];exact w1) (by rw [hew];exact w4) (by rw [hew];exact w3) p0)
    ·exact ⟨-1,⟨i1,p,hp,fun _=>rfl,fun h=>by simp at h;exact absurd h hew⟩,.inl rfl⟩
   have two:(e.1=4∨e.1=5)→∃r,zb.j2 (zb.n (m+1)) l i r e true∧zdg l i r:=by
    intro hk
    by_cases hp0:p<0
    ·exact ⟨-1,⟨fun _=>⟨i1,i1,p,hp,fun _=>rfl,fun h=>absurd hp0 (df h)⟩,(fun h=>by cases h)⟩,.inl rfl⟩
    ·have htr:Tr l p (i-1):=by
      rcases hpo with rfl | h
      ·omega
      ·exact h
     have p1:=htr.le;obtain ⟨q,hq,hqo⟩:=ih (p-1) (by omega) (by omega) (by omega);have j1:InR .i64 (p-1):=zk (by omega) (by omega)
     by_cases hew:e=(e.1,p-1,i-1,0,0,(0#256),([]:Str))
     ·refine ⟨q,⟨fun _=>⟨i1,i1,p,hp,fun h=>absurd (dt h) hp0,fun _=>⟨j1,j1,q,hq,false, ?_,(fun h=>by cases h),fun _=>rfl⟩⟩,(fun h=>by cases h)⟩, ?_⟩
      ·have:(e != (e.1,p-1,i-1,0,0,(0#256),([]:Str)))=false:=by rw [← hew];simp
       exact this.symm
      ·rcases hqo with rfl | q0
       ·exact .inl rfl
       ·exact .inr (.two he hk (by rw [hew]) (by rw [hew]) htr q0)
     ·refine ⟨-1,⟨fun _=>⟨i1,i1,p,hp,fun h=>absurd (dt h) hp0,fun _=>⟨j1,j1,q,hq,true, ?_,fun _=>rfl,(fun h=>by cases h)⟩⟩,(fun h=>by cases h)⟩,.inl rfl⟩;exact (bne_iff_ne.2 hew).symm
   have three:(e.1=6∨e.1=7∨e.1=8∨e.1=9)→∃r,zb.j3 (zb.n (m+1)) l i r e true∧zdg l i r:=by
    intro hk
    by_cases h7:e.1=7
    ·by_cases hb:((decide (e.2.2.2.1<0))||(decide (e.2.2.2.2.1<e.2.2.2.1))||(decide (255<e.2.2.2.2.1)))=true
     ·exact ⟨-1,⟨fun _=>⟨i1,fun _=>⟨_,rfl,fun _=>rfl,fun h=>by rw [hb] at h;cases h⟩,fun h=>by simp [h7] at h⟩,(fun h=>by cases h)⟩,.inl rfl⟩
     ·obtain ⟨r,hr1,hr2⟩:=one (e.1,i-1,0,e.2.2.2.1,e.2.2.2.2.1,(0#256),([]:Str)) fun _=>⟨rfl,hk,fun _=>by
       simp only [Bool.or_eq_true,decide_eq_true_eq,not_or] at hb;exact ⟨by show (0:Int)≤e.2.2.2.1;omega,by show e.2.2.2.1≤e.2.2.2.2.1;omega,by show e.2.2.2.2.1≤255;omega⟩,rfl⟩
      exact ⟨r,⟨fun _=>⟨i1,fun _=>⟨_,rfl,fun h=>absurd h hb,fun _=>hr1⟩,fun h=>by simp [h7] at h⟩,(fun h=>by cases h)⟩,hr2⟩
    ·obtain ⟨r,hr1,hr2⟩:=one (e.1,i-1,0,0,0,(0#256),([]:Str)) fun _=>⟨rfl,hk,fun h=>absurd h h7,rfl⟩;exact ⟨r,⟨fun _=>⟨i1,fun h=>by simp at h;exact absurd h h7,fun _=>hr1⟩,(fun h=>by cases h)⟩,hr2⟩
   have ne:∀{a b:Int},a≠b→(a==b)=true→False:=fun h k=>h (eq_of_beq k);have last:∀b:Bool,(b=true↔e.1=9)→e.1≠6→e.1≠7→e.1≠8→∃r,zb.j3 (zb.n (m+1)) l i r e b∧zdg l i r:=by
    intro b hb n6 n7 n8;cases b
    ·have n9:e.1≠9:=fun h=>by have:=hb.2 h;cases this
     by_cases h4:e.1=4
     ·obtain ⟨r,hr1,hr2⟩:=two (.inl h4);exact ⟨r,⟨(fun h=>by cases h),fun _=>⟨fun h=>by rw [h];exact hr1,fun h=>by simp [h4] at h⟩⟩,hr2⟩
     ·by_cases h5:e.1=5
      ·obtain ⟨r,hr1,hr2⟩:=two (.inr h5);have e5:(e.1==5)=true:=by simp [h5]
       exact ⟨r,⟨(fun h=>by cases h),fun _=>⟨fun h=>by simp at h;exact absurd h h4,fun _=>by rw [e5];exact hr1⟩⟩,hr2⟩
      ·have e5:(e.1==5)=false:=by simp [h5]
       exact ⟨-1,⟨(fun h=>by cases h),fun _=>⟨fun h=>by simp at h;exact absurd h h4,fun _=>by rw [e5];exact ⟨(fun h=>by cases h),fun _=>rfl⟩⟩⟩,.inl rfl⟩
    ·exact three (.inr (.inr (.inr (hb.1 rfl))))
   suffices h:∃r,(∃e6:SNode,at? l i=some e6∧_)∧zdg l i r by
    obtain ⟨r,hr,ho⟩:=h;exact ⟨r,⟨fun h=>absurd (dt h) h0,fun _=>hr⟩,ho⟩
   by_cases k1:e.1=1
   ·by_cases hw:e=(e.1,0,0,0,0,(0#256),([]:Str))
    ·exact ⟨i,⟨e,he,fun _=>⟨fun h=>by rw [← hw] at h;simp at h,fun _=>rfl⟩,fun h=>by simp [k1] at h⟩,.inr (.leaf he (.inl k1) (fun h=>by omega) ⟨by rw [hw],by rw [hw]⟩)⟩
    ·exact ⟨-1,⟨e,he,fun _=>⟨fun _=>rfl,fun h=>by simp at h;exact absurd h hw⟩,fun h=>by simp [k1] at h⟩,.inl rfl⟩
   ·by_cases k2:e.1=2
    ·by_cases hw:e=(e.1,0,0,0,0,e.2.2.2.2.2.1,([]:Str))
     ·exact ⟨i,⟨e,he,fun h=>(ne k1 h).elim,fun _=>⟨fun _=>⟨false,by rw [← hw];simp,(fun h=>by cases h),fun _=>rfl⟩,fun h=>by simp [k2] at h⟩⟩,.inr (.leaf he (.inr (.inl k2)) (fun h=>by omega) ⟨by rw [hw],by rw [hw]⟩)⟩
     ·exact ⟨-1,⟨e,he,fun h=>(ne k1 h).elim,fun _=>⟨fun _=>⟨true,(bne_iff_ne.2 hw).symm,fun _=>rfl,(fun h=>by cases h)⟩,fun h=>by simp [k2] at h⟩⟩,.inl rfl⟩
    ·by_cases k3:e.1=3
     ·obtain ⟨t,htx,htn⟩:=text_ex (ht e hm);cases t
      ·exact ⟨-1,⟨e,he,fun h=>(ne k1 h).elim,fun _=>⟨fun h=>(ne k2 h).elim,fun _=>⟨fun _=>⟨false,htx,fun _=>rfl,(fun h=>by cases h)⟩,fun h=>by simp [k3] at h⟩⟩⟩,.inl rfl⟩
      ·by_cases hw:e=(e.1,0,0,0,0,(0#256),e.2.2.2.2.2.2)
       ·exact ⟨i,⟨e,he,fun h=>(ne k1 h).elim,fun _=>⟨fun h=>(ne k2 h).elim,fun _=>⟨fun _=>⟨true,htx,(fun h=>by cases h),fun _=>⟨false,by rw [← hw];simp,(fun h=>by cases h),fun _=>rfl⟩⟩,fun h=>by simp [k3] at h⟩⟩⟩,.inr (.leaf he (.inr (.inr k3)) (fun _=>htn rfl) ⟨by rw [hw],by rw [hw]⟩)⟩
       ·exact ⟨-1,⟨e,he,fun h=>(ne k1 h).elim,fun _=>⟨fun h=>(ne k2 h).elim,fun _=>⟨fun _=>⟨true,htx,(fun h=>by cases h),fun _=>⟨true,(bne_iff_ne.2 hw).symm,fun _=>rfl,(fun h=>by cases h)⟩⟩,fun h=>by simp [k3] at h⟩⟩⟩,.inl rfl⟩
     ·by_cases k6:e.1=6
      ·obtain ⟨r,hr1,hr2⟩:=three (.inl k6);exact ⟨r,⟨e,he,fun h=>(ne k1 h).elim,fun _=>⟨fun h=>(ne k2 h).elim,fun _=>⟨fun h=>(ne k3 h).elim,fun _=>⟨fun h=>by rw [h];exact hr1,fun h=>by simp [k6] at h⟩⟩⟩⟩,hr2⟩
      ·by_cases k7:e.1=7
       ·obtain ⟨r,hr1,hr2⟩:=three (.inr (.inl k7));exact ⟨r,⟨e,he,fun h=>(ne k1 h).elim,fun _=>⟨fun h=>(ne k2 h).elim,fun _=>⟨fun h=>(ne k3 h).elim,fun _=>⟨fun h=>(ne k6 h).elim,fun _=>⟨fun h=>by rw [h];exact hr1,fun h=>by simp [k7] at h⟩⟩⟩⟩⟩,hr2⟩
       ·by_cases k8:e.1=8
        ·obtain ⟨r,hr1,hr2⟩:=three (.inr (.inr (.inl k8)));exact ⟨r,⟨e,he,fun h=>(ne k1 h).elim,fun _=>⟨fun h=>(ne k2 h).elim,fun _=>⟨fun h=>(ne k3 h).elim,fun _=>⟨fun h=>(ne k6 h).elim,fun _=>⟨fun h=>(ne k7 h).elim,fun _=>⟨fun h=>by rw [h];exact hr1,fun h=>by simp [k8] at h⟩⟩⟩⟩⟩⟩,hr2⟩
        ·obtain ⟨r,hr1,hr2⟩:=last (e.1==9) beq_iff_eq k6 k7 k8;exact ⟨r,⟨e,he,fun h=>(ne k1 h).elim,fun _=>⟨fun h=>(ne k2 h).elim,fun _=>⟨fun h=>(ne k3 h).elim,fun _=>⟨fun h=>(ne k6 h).elim,fun _=>⟨fun h=>(ne k7 h).elim,fun _=>⟨fun h=>(ne k8 h).elim,fun _=>hr1⟩⟩⟩⟩⟩⟩,hr2⟩
theorem form_ex {d:List SNode} (hl:d.length≤1000) (ht:∀n∈d,n.2.2.2.2.2.2.length≤140737488351232):∃r,zbx d r∧(r=true→Tr d 0 ((d.length:Int)-1)):=by
 obtain ⟨r,hr,ho⟩:=first_ex hl ht d.length ((d.length:Int)-1) (by omega) (by omega) (by omega);refine ⟨_,⟨fun _=>zk (by omega) (by omega),r,fun _=>⟨_,hr⟩,rfl⟩,fun h=>?_⟩;simp only [Bool.and_eq_true,decide_eq_true_eq,beq_iff_eq] at h;rcases ho with rfl | h2
 ·omega
 ·rw [h.2] at h2;exact h2
theorem Tr.at {d:List SNode} (h:Tr d 0 ((d.length:Int)-1)) {i:Int} {n:SNode} (hn:at? d i=some n):∃g,Tr d g i:=by
 have hb:=zco hn;obtain ⟨g,hg,_⟩:=h.sub i hb.1 (by omega);exact ⟨g,hg⟩
def zed (c:Int) (n:SNode):SNode:=(n.1,if 4≤n.1 then n.2.1+c else n.2.1,if n.1=4∨n.1=5 then n.2.2.1+c else n.2.2.1,n.2.2.2.1,n.2.2.2.2.1,n.2.2.2.2.2.1,n.2.2.2.2.2.2)
def zet (c:Int) (l:List SNode):List SNode:=l.map (zed c)
theorem zce (c:Int) (l:List SNode):(zet c l).length=l.length:=List.length_map ..
theorem moved_in {l:List SNode} {c:Int} (hl:l.length≤1000) (hr:∀n∈l,InR .i64 (n.2.1+c)∧InR .i64 (n.2.2.1+c)):ze l c (zet c l):=by
 refine upto (P:=fun k (o:List SNode) v=>ze.l1 l c _ k o v) l.length (fun i o=>o=zet c (l.take i)) ?_ ?_ [] (by simp [zet])
 ·rintro i o hi rfl;have hat:at? l (i:Int)=some l[i]:=by rw [zde];simp [hi]
  obtain ⟨r1,r2⟩:=hr _ (List.getElem_mem hi);have e:zet c (l.take (i+1))=zet c (l.take i)++[zed c l[i]]:=by
   unfold zet;rw [List.take_succ_eq_append_getElem hi,List.map_append];rfl
  have hll:(zet c (l.take i)).length=i:=by rw [zce];simp;omega
  refine .inr ⟨_,rfl,fun k hk=>⟨fun _=>⟨l[i],hat, ?_⟩,fun h=>absurd (by omega) (df h)⟩⟩;rw [e] at hk;have last:∀w:SNode,w=zed c l[i]→ze.j2 (ze.l1 l c (ze.j1 (zet c l)) k) (zet c (l.take i)) (i:Int) w:=by
   rintro w rfl;exact ⟨by rw [hll];simp;omega,zk (by omega) (by omega),hk⟩
  generalize l[i]=n at *;obtain ⟨k0,a,b,lo,hi2,cl,tx⟩:=n;simp only at r1 r2;refine ⟨fun h4=>⟨r1,fun h5=>⟨r2,last _ ?_⟩,fun h5=>last _ ?_⟩,fun h4=>⟨fun h5=>?_,fun h5=>last _ ?_⟩⟩
  ·have:=dt h4;simp only at this;simp only [Bool.or_eq_true,beq_iff_eq] at h5;simp only [zed,if_pos this,if_pos h5]
  ·have:=dt h4;simp only at this;simp only [Bool.or_eq_false_iff,beq_eq_false_iff_ne] at h5;have h5':¬ (k0=4∨k0=5):=by omega
   simp only [zed,if_pos this,if_neg h5']
  ·exfalso;have:=df h4;simp only at this;simp only [Bool.or_eq_true,beq_iff_eq] at h5;omega
  ·have:=df h4;simp only at this;have h5':¬ (k0=4∨k0=5):=by omega
   simp only [zed,if_neg this,if_neg h5']
 ·rintro o rfl k;refine ⟨fun h=>absurd (dt h) (by omega),fun _=>?_⟩;show zet c l=zet c (l.take l.length);rw [List.take_length]
theorem movN_zero (n:SNode):zed 0 n=n:=by
 obtain ⟨k,a,b,r⟩:=n;simp [zed]
theorem movL_zero (l:List SNode):zet 0 l=l:=by
 unfold zet;rw [show zed 0=id from funext movN_zero,List.map_id]
def zcp (k:Int) (a b:List SNode):List SNode:=(a++zet (a.length:Int) b)++[(k,(a.length:Int)-1,((a.length:Int)+(b.length:Int))-1,0,0,(0#256),([]:Str))]
def zch (k:Int) (a:List SNode):List SNode:=a++[(k,(a.length:Int)-1,0,0,0,(0#256),([]:Str))]
structure Sma (d:List SNode):Prop where
 a:∀n∈d,0≤n.2.1∧n.2.1≤(d.length:Int)
 b:∀n∈d,0≤n.2.2.1∧n.2.2.1≤(d.length:Int)
theorem Tr.parts {l:List SNode} {f i:Int} (h:Tr l f i) {n:SNode} (hn:at? l i=some n):(0≤n.2.1∧n.2.1≤i)∧(0≤n.2.2.1∧n.2.2.1≤i):=by
 have hb:=zco hn;cases h with
 | leaf he hk hx h0=>rw [hn] at he;cases he;omega
 | one he hk ha hb hr h=>rw [hn] at he;cases he;have:=h.le;omega
 | two he hk ha hb h1 h2=>rw [hn] at he;cases he;have:=h1.le;have:=h2.le;omega
theorem mem_at {α:Type} {l:List α} {x:α} (h:x∈l):∃i:Int,at? l i=some x:=by
 obtain ⟨i,hi,e⟩:=List.mem_iff_getElem.1 h;exact ⟨(i:Int),by rw [zde];simp [hi,e]⟩
theorem Tr.sma {d:List SNode} (h:Tr d 0 ((d.length:Int)-1)):Sma d:=by
 constructor
 all_goals
  intro n hn;obtain ⟨i,hi⟩:=mem_at hn;obtain ⟨g,hg⟩:=h.at hi;have:=hg.parts hi;have:=zco hi;omega
theorem ze4 {d:List SNode} (h:Tr d 0 ((d.length:Int)-1)) (hl:d.length≤1000) {c:Int} (h0:0≤c) (h1:c≤1000):ze d c (zet c d):=
 moved_in hl fun n hn=>by
  have:=h.sma.a n hn;have:=h.sma.b n hn;exact ⟨zk (by omega) (by omega),zk (by omega) (by omega)⟩
theorem Pair_in {k:Int} {a b:List SNode} (ha:Tr a 0 ((a.length:Int)-1)) (hb:Tr b 0 ((b.length:Int)-1)) (la:a.length≤1000) (lb:b.length≤1000):zbw k a b (zcp k a b):=by
 refine ⟨_,ze4 ha la (Int.le_refl 0) (by omega),_,ze4 hb lb (c:=(a.length:Int)) (by omega) (by omega),by rw [zce,zce];omega,zk (by omega) (by omega),zk (by omega) (by omega),zk (by omega) (by omega),by rw [List.length_append,zce,zce];simp;omega, ?_⟩;rw [movL_zero];rfl
theorem zfc {k:Int} {a:List SNode} (ha:Tr a 0 ((a.length:Int)-1)) (la:a.length≤1000):zbm k 0 0 a (zch k a):=by
 refine ⟨_,ze4 ha la (Int.le_refl 0) (by omega),zk (by omega) (by omega),by rw [zce];simp;omega, ?_⟩;rw [movL_zero];rfl
structure Emb (l l':List SNode) (c:Int):Prop where
 nn:0≤c
 at':∀i n,at? l i=some n→at? l' (i+c)=some (zed c n)
theorem Tr.emb {l l':List SNode} {c:Int} (h:Emb l l' c) {f i:Int} (t:Tr l f i):Tr l' (f+c) (i+c):=by
 induction t with
 | leaf he hk hx h0=>
  rename_i i e
  have e1:zed c e=e:=by
   obtain ⟨k,a,b,r⟩:=e;simp only at hk;simp only [zed,if_neg (show ¬ 4≤k by omega),if_neg (show ¬ (k=4∨k=5) by omega)]
  exact .leaf (e1 ▸ h.at' _ _ he) hk hx h0
 | one he hk ha hb hr t ih=>
  rename_i f i e
  refine .one (h.at' _ _ he) hk ?_ ?_ hr (by have e:i-1+c=i+c-1:=by omega
                                             rw [← e];exact ih)
  ·simp only [zed];rw [if_pos (by omega)];omega
  ·simp only [zed];rw [if_neg (by omega)];exact hb
 | two he hk ha hb t1 t2 i1 i2=>
  rename_i f p i e
  refine .two (p:=p+c) (h.at' _ _ he) hk ?_ ?_ (by have e:i-1+c=i+c-1:=by omega
                                                   rw [← e];exact i1) (by have e:p-1+c=p+c-1:=by omega
                                                                          rw [← e];exact i2)
  ·simp only [zed];rw [if_pos (by omega)];omega
  ·simp only [zed];rw [if_pos (by omega)];omega
theorem at_left {α:Type} {a b:List α} {i:Int} {x:α} (h:at? a i=some x):at? (a++b) i=some x:=by
 obtain ⟨k,rfl,hk⟩:=at_nn h;rw [zde,List.getElem?_append_left (List.getElem?_eq_some_iff.1 hk).1];exact hk
theorem zfb {α:Type} {a b:List α} {i:Int} {x:α} (h:at? b i=some x):at? (a++b) (i+(a.length:Int))=some x:=by
 obtain ⟨k,rfl,hk⟩:=at_nn h;have e:(k:Int)+(a.length:Int)=((k+a.length:Nat):Int):=by omega
 rw [e,zde,List.getElem?_append_right (by omega),Nat.add_sub_cancel];exact hk
theorem at_movL {c:Int} {l:List SNode} {i:Int} {n:SNode} (h:at? l i=some n):at? (zet c l) i=some (zed c n):=by
 obtain ⟨k,rfl,hk⟩:=at_nn h;rw [zde];unfold zet;rw [List.getElem?_map,hk];rfl
theorem ze9 {a:List SNode} (r:List SNode):Emb a (a++r) 0:=⟨Int.le_refl _,fun i n h=>by rw [movN_zero,Int.add_zero];exact at_left h⟩
theorem emb_mid {a b r:List SNode}:Emb b ((a++zet (a.length:Int) b)++r) (a.length:Int):=⟨by omega,fun i n h=>at_left (zfb (at_movL h))⟩
theorem zdv (k:Int) (a b:List SNode):(zcp k a b).length=a.length+b.length+1:=by simp [zcp,zce];omega
theorem zc3 (k:Int) (a:List SNode):(zch k a).length=a.length+1:=by simp [zch]
theorem zea (k:Int) (a b:List SNode):at? (zcp k a b) ((a.length:Int)+(b.length:Int))=some (k,(a.length:Int)-1,((a.length:Int)+(b.length:Int))-1,0,0,(0#256),([]:Str)):=by
 have:=zfb (a:=a++zet (a.length:Int) b) (b:=[(k,(a.length:Int)-1,((a.length:Int)+(b.length:Int))-1,0,0,(0#256),([]:Str))]) (i:=0) rfl;rw [List.length_append,zce] at this;have e:(0:Int)+((a.length+b.length:Nat):Int)=(a.length:Int)+(b.length:Int):=by omega
 rw [e] at this;exact this
theorem zdy (k:Int) (a:List SNode):at? (zch k a) (a.length:Int)=some (k,(a.length:Int)-1,0,0,0,(0#256),([]:Str)):=by
 have:=zfb (a:=a) (b:=[(k,(a.length:Int)-1,0,0,0,(0#256),([]:Str))]) (i:=0) rfl;rw [Int.zero_add] at this;exact this
theorem pair_embs {k:Int} {a b:List SNode}:Emb a (zcp k a b) 0∧Emb b (zcp k a b) (a.length:Int):=⟨by unfold zcp;rw [List.append_assoc];exact ze9 _,emb_mid⟩
theorem pair_tr {k:Int} {a b:List SNode} (ha:Tr a 0 ((a.length:Int)-1)) (hb:Tr b 0 ((b.length:Int)-1)) (hk:k=4∨k=5):Tr (zcp k a b) 0 (((zcp k a b).length:Int)-1):=by
 obtain ⟨ea,eb⟩:=pair_embs (k:=k) (a:=a) (b:=b);have ta:=ha.emb ea;have tb:=hb.emb eb;have e:(((zcp k a b).length:Int)-1)=(a.length:Int)+(b.length:Int):=by rw [zdv];omega
 rw [e];refine .two (p:=(a.length:Int)) (zea k a b) hk rfl rfl ?_ ?_
 ·have e1:(b.length:Int)-1+(a.length:Int)=(a.length:Int)+(b.length:Int)-1:=by omega
  rw [e1,Int.zero_add] at tb;exact tb
 ·rw [Int.add_zero,Int.add_zero] at ta;exact ta
theorem zew {k:Int} {a:List SNode} (ha:Tr a 0 ((a.length:Int)-1)) (hk:k=6∨k=8∨k=9):Tr (zch k a) 0 (((zch k a).length:Int)-1):=by
 have ta:=ha.emb (ze9 (a:=a) [(k,(a.length:Int)-1,0,0,0,(0#256),([]:Str))]);have e:(((zch k a).length:Int)-1)=(a.length:Int):=by rw [zc3];omega
 rw [e];refine .one (zdy k a) (by simp only;omega) rfl rfl (fun h=>by simp only at h;omega) ?_;rw [Int.add_zero,Int.add_zero] at ta;exact ta
theorem leaf_tr {n:SNode} (hk:n.1=1∨n.1=2) (h0:n.2.1=0∧n.2.2.1=0):Tr [n] 0 ((([n]:List SNode).length:Int)-1):=.leaf (e:=n) rfl (by omega) (fun h=>by omega) h0
abbrev Txt (d:List SNode):Prop:=∀n∈d,n.2.2.2.2.2.2.length≤140737488351232
theorem class_Has_in {a:Cl} {n:Nat} (hn:n<256):zb5 a (n:Int) (a.has n):=by
 refine ⟨⟨by omega,by omega⟩,_,rfl, ?_⟩;rw [show ((n:Int) / 64)=((n / 64:Nat):Int) by omega,show ((n:Int) % 64)=((n % 64:Nat):Int) by omega];show _=(andI (shrI (((a.word ((n / 64:Nat):Int).toNat):Nat):Int) _) 1==1);rw [Int.toNat_natCast,shr_bit (Nat.mod_lt _ (by omega)),has_w hn]
theorem zbj {a:Cl} {i:Nat} (hi:i<256):zb5 a ((i:Int) % 256) (a.has i):=by
 rw [show ((i:Int) % 256)=(i:Int) by omega];exact class_Has_in hi
theorem zeo {a:Cl}:zl a (a.count:Int):=by
 refine upto (P:=fun k (s:Int) v=>zl.l1 a _ k s v) 256 (fun i s=>s=(((List.range i).countP a.has:Nat):Int)) ?_ ?_ _ (by simp)
 ·rintro i s hi rfl;have hle:=List.countP_le_length (l:=List.range i) (p:=a.has);simp only [List.length_range] at hle;refine .inr ⟨_,rfl,fun k h=>⟨fun _=>⟨a.has i,zbj hi,fun hc=>?_,fun hc=>?_⟩,fun h=>absurd (by omega) (df h)⟩⟩
  ·rw [List.range_succ,List.countP_append,List.countP_singleton,hc] at h;exact ⟨zk (by omega) (by omega),zk (by omega) (by omega),by simpa using h⟩
  ·rw [List.range_succ,List.countP_append,List.countP_singleton,hc] at h;exact ⟨zk (by omega) (by omega),by simpa using h⟩
 ·rintro s rfl k;exact ⟨fun h=>absurd (dt h) (by omega),fun _=>rfl⟩
theorem word_of_bits {r:Cl} {i v:Nat} (hi:i<4) (hv:v<2 ^ 64) (h:∀j,j<64→r.has (64*i+j)=v.testBit j):r.word i=v:=by
 apply Nat.eq_of_testBit_eq;intro j;rw [Cl.word_bit]
 by_cases hj:j<64
 ·simp [hj,h j hj]
 ·have:v<2 ^ j:=Nat.lt_of_lt_of_le hv (Nat.pow_le_pow_right (by omega) (by omega));simp [hj,Nat.testBit_lt_two_pow this]
theorem ref01_Of_l2 {l:List Bool} (hl:l.length=256) {w:Nat} (hw:w<4) {X:Cl→Prop} {s:Cl} (h0:s.word w=0) (hX:∀t:Cl,(∀j,j<4→t.word j=if j=w then zbd (fun j=>l.getD (64*w+j) false) 64 else s.word j)→X t):
  ∃k,zj.l2 l (w:Int) X k s 1 0:=by
 refine upto (P:=fun k (s:Cl × Int) v=>zj.l2 l (w:Int) X k s.1 s.2 v) 64
  (fun i t=>(∀j,j<4→t.1.word j=if j=w then zbd (fun j=>l.getD (64*w+j) false) i else s.word j)∧t.2=((2 ^ i % 2 ^ 64:Nat):Int)) ?_ ?_ (s,1) ?_
 ·rintro i ⟨t,b⟩ hi ⟨h1,h2⟩;simp only at h1 h2;subst h2;have hb:=zek (fun j=>l.getD (64*w+j) false) (i+1);have hp:2 ^ (i+1)≤2 ^ 64:=Nat.pow_le_pow_right (by omega) (by omega);have hp2:2 ^ i<2 ^ 64:=Nat.pow_lt_pow_right (by omega) hi;have hbit:IntKind.wrap .u64 (((2 ^ i % 2 ^ 64:Nat):Int)*2)=((2 ^ (i+1) % 2 ^ 64:Nat):Int):=by
   rw [wrap_u64,Nat.mod_eq_of_lt hp2,Nat.pow_succ];omega
  have hat:at? l (64*(w:Int)+(i:Int))=some (l.getD (64*w+i) false):=by
   rw [show (64*(w:Int)+(i:Int))=((64*w+i:Nat):Int) by omega,zde,List.getElem?_eq_getElem (by omega)];simp [List.getD,List.getElem?_eq_getElem (show 64*w+i<l.length by omega)]
  cases he:l.getD (64*w+i) false
  ·refine .inr ⟨(t,((2 ^ (i+1) % 2 ^ 64:Nat):Int)),⟨fun j hj=>?_,rfl⟩,fun k h=>⟨fun _=>⟨zk (by omega) (by omega),zk (by omega) (by omega),_,hat,fun hc=>(by rw [he] at hc;cases hc),fun _=>⟨zk (by omega) (by omega), ?_⟩⟩,fun h=>absurd (by omega) (df h)⟩⟩
   ·simp only;rw [h1 j hj];split
    ·simp only [zbd,he,cond_false]
    ·rfl
   ·rw [hbit];exact h
  ·refine .inr ⟨(t.setw (w:Int) ((zbd (fun j=>l.getD (64*w+j) false) (i+1):Nat):Int),((2 ^ (i+1) % 2 ^ 64:Nat):Int)),⟨fun j hj=>?_,rfl⟩,fun k h=>⟨fun _=>⟨zk (by omega) (by omega),zk (by omega) (by omega),_,hat,fun _=>⟨⟨by omega,by omega⟩,⟨by omega,by omega⟩,zk (by omega) (by omega), ?_⟩,fun hc=>(by rw [he] at hc;cases hc)⟩,fun h=>absurd (by omega) (df h)⟩⟩
   ·simp only;rw [setw_word (by rw [Int.toNat_natCast];omega) j hj,Int.toNat_natCast];split
    ·rfl
    ·rename_i e;rw [h1 j hj,if_neg e]
   ·have hww:(Cl.w t (w:Int))=((zbd (fun j=>l.getD (64*w+j) false) i:Nat):Int):=by
     show ((t.word ((w:Int).toNat):Nat):Int)=_;rw [Int.toNat_natCast,h1 w hw,if_pos rfl]
    have hsum:IntKind.wrap .u64 (Cl.w t (w:Int)+((2 ^ i % 2 ^ 64:Nat):Int))=((zbd (fun j=>l.getD (64*w+j) false) (i+1):Nat):Int):=by
     have e2:zbd (fun j=>l.getD (64*w+j) false) (i+1)=2 ^ i+zbd (fun j=>l.getD (64*w+j) false) i:=by simp only [zbd,he,cond_true]
     rw [hww,wrap_u64,Nat.mod_eq_of_lt hp2];omega
    rw [hbit,hsum];exact h
 ·rintro ⟨t,b⟩ ⟨h1,_⟩ k;exact ⟨fun h=>absurd (dt h) (by omega),fun _=>hX t h1⟩
 ·refine ⟨fun j hj=>?_,by rfl⟩;split
  ·rename_i e;subst e;simpa [zbd] using h0
  ·rfl
theorem ofL_word {l:List Bool} {w:Nat} (hw:w<4):(Cl.ofL l).word w=zbd (fun j=>l.getD (64*w+j) false) 64:=by
 refine word_of_bits hw (zek _ 64) fun j hj=>?_;rw [has_ofL (by omega),zeu];simp [hj]
theorem ref01_Of_in {l:List Bool} (hl:l.length=256):zj l (Cl.ofL l):=by
 refine upto (P:=fun k (s:Cl) v=>zj.l1 l _ k s v) 4 (fun i s=>∀j,j<4→s.word j=if j<i then (Cl.ofL l).word j else 0) ?_ ?_ _ ?_
 ·intro i s hi h;refine .inr ⟨Cl.ofWords (if 0<i+1 then (Cl.ofL l).word 0 else 0) (if 1<i+1 then (Cl.ofL l).word 1 else 0) (if 2<i+1 then (Cl.ofL l).word 2 else 0) (if 3<i+1 then (Cl.ofL l).word 3 else 0), ?_,fun k hk=>⟨fun _=>?_,fun h=>absurd (by omega) (df h)⟩⟩
  ·have hb:∀(c:Prop) [Decidable c] (k:Nat),(if c then (Cl.ofL l).word k else 0)<2 ^ 64:=fun c _ k=>by
    split
    ·exact Cl.word_lt _ _
    ·omega
   obtain ⟨e0,e1,e2,e3⟩:=Cl.ofWords_word (hb (0<i+1) 0) (hb (1<i+1) 1) (hb (2<i+1) 2) (hb (3<i+1) 3);intro j hj
   match j,hj with
   | 0,_=>exact e0
   | 1,_=>exact e1
   | 2,_=>exact e2
   | 3,_=>exact e3
  ·refine ref01_Of_l2 hl hi (by rw [h i hi,if_neg (by omega)]) fun t ht=>?_;refine ⟨zk (by omega) (by omega), ?_⟩;have hb:∀(c:Prop) [Decidable c] (k:Nat),(if c then (Cl.ofL l).word k else 0)<2 ^ 64:=fun c _ k=>by
    split
    ·exact Cl.word_lt _ _
    ·omega
   obtain ⟨e0,e1,e2,e3⟩:=Cl.ofWords_word (hb (0<i+1) 0) (hb (1<i+1) 1) (hb (2<i+1) 2) (hb (3<i+1) 3);have key:∀j,j<4→t.word j=if j<i+1 then (Cl.ofL l).word j else 0:=fun j hj=>by
    rw [ht j hj]
    by_cases e:j=i
    ·subst e;rw [if_pos rfl,if_pos (by omega),ofL_word hj]
    ·rw [if_neg e,h j hj]
     by_cases e2:j<i
     ·rw [if_pos e2,if_pos (by omega)]
     ·rw [if_neg e2,if_neg (by omega)]
   have:t=_:=Cl.ext_words (x:=t) (y:=Cl.ofWords (if 0<i+1 then (Cl.ofL l).word 0 else 0) (if 1<i+1 then (Cl.ofL l).word 1 else 0) (if 2<i+1 then (Cl.ofL l).word 2 else 0) (if 3<i+1 then (Cl.ofL l).word 3 else 0)) fun j hj=>by
    rw [key j hj]
    match j,hj with
    | 0,_=>exact e0.symm
    | 1,_=>exact e1.symm
    | 2,_=>exact e2.symm
    | 3,_=>exact e3.symm
   rw [this];exact hk
 ·intro s h k;refine ⟨fun h=>absurd (dt h) (by omega),fun _=>?_⟩;show Cl.ofL l=s;exact Cl.ext_words fun j hj=>by rw [h j hj,if_pos hj]
 ·intro j hj;simp [Cl.word]
theorem ofL_set {l:List Bool} {f:Nat→Bool} (h:∀n,n<256→l[n]?=some (f n)):Cl.ofL l=Cl.of f:=by
 apply Cl.ext;intro c hc;rw [has_ofL hc,Cl.of_has _ hc];simp [List.getD,h c hc]
theorem zdm {f t:Int} (hf:InR .u8 f) (ht:InR .u8 t):zt f t (Cl.row f t):=by
 obtain ⟨f,hf1,rfl⟩:=u8_of hf;obtain ⟨t,ht1,rfl⟩:=u8_of ht;refine run (P:=fun k (s:List Bool × Int)=>zt.l1 (t:Int) _ k s.1 s.2)
  (fun s=>s.1.length=256∧∃i:Nat,s.2=i∧f≤i∧(i≤t+1∨i=f)∧∀n,n<256→s.1[n]?=some (decide (f≤n)&&decide (n<i))) (fun s=>257-s.2.toNat) ?_ (List.replicate 256 false,(f:Int)) ?_
 ·rintro ⟨l,i'⟩ ⟨hl,i,hi,h1,h2,h3⟩;simp only at hl hi h3;subst hi
  by_cases hc:i≤t
  ·refine .inr ⟨(l.set i true,((i+1:Nat):Int)),⟨by simpa using hl,i+1,rfl,by omega,by omega,fun n hn=>?_⟩, ?_,fun k h=>⟨fun _=>⟨l[i]'(by omega),by rw [zde];exact List.getElem?_eq_getElem (by show i<l.length;omega),zk (by simp only;omega) (by simp only;omega), ?_⟩,fun h=>absurd (by show (i:Int)≤(t:Int);omega) (df h)⟩⟩
   ·simp only [List.getElem?_set];split
    ·rename_i e;subst e;simp [show i<l.length by omega,h1]
    ·rename_i e
     rw [h3 n hn];congr 2;apply decide_eq_decide.2;omega
   ·simp only [Int.toNat_natCast];omega
   ·simpa using h
  ·refine .inl fun k=>⟨fun h=>absurd (dt h) (by simp only;omega),fun _=>⟨Cl.ofL l,ref01_Of_in hl, ?_⟩⟩;rw [ofL_set h3];apply Cl.ext;intro c hc2;rw [has_row hc2,Cl.of_has _ hc2]
   by_cases e:f≤c
   ·have e3:(decide (c<i):Bool)=decide (c≤t):=decide_eq_decide.2 (by omega);rw [e3]
    congr 1
    ·apply decide_eq_decide.2;omega
    ·apply decide_eq_decide.2;omega
   ·rw [decide_eq_false (show ¬ (f:Int)≤(c:Int) by omega),decide_eq_false e];simp
 ·refine ⟨List.length_replicate,f,rfl,Nat.le_refl _,by omega,fun n hn=>?_⟩;show (List.replicate 256 false)[n]?=_;rw [List.getElem?_replicate,if_pos hn]
  by_cases e:f≤n
  ·simp [show ¬ n<f by omega]
  ·simp [e]
def hx16:Str:=[48,49,50,51,52,53,54,55,56,57,97,98,99,100,101,102]
def hexS (c:Nat):Str:=[hx16.getD (c / 16) 0,hx16.getD (c % 16) 0]
theorem hx_part:∀n:Fin 16,(hx16.take ((n.val:Int)+1).toNat).drop (n.val:Int).toNat=[hx16.getD n.val 0]:=by decide +kernel
theorem zdp {c:Nat} (h:c<256):zci (c:Int) (hexS c):=by
 have e1:(c:Int) / 16=((c / 16:Nat):Int):=by omega
 have e2:(c:Int) % 16=((c % 16:Nat):Int):=by omega
 have k1:=hx_part ⟨c / 16,by omega⟩;have k2:=hx_part ⟨c % 16,by omega⟩;have l16:hx16.length=16:=rfl;unfold zci;rw [e1,e2];have hxe:([48,49,50,51,52,53,54,55,56,57,97,98,99,100,101,102]:Str)=hx16:=rfl;rw [hxe,l16];simp only at k1 k2;rw [k1,k2];exact ⟨by omega,by omega,zk (by omega) (by omega),⟨by omega,by omega,by omega⟩,by omega,by omega,zk (by omega) (by omega),⟨by omega,by omega,by omega⟩,by simp,rfl⟩
theorem ze6 (c:Nat):(hexS c).length=2:=rfl
def bgC (P:Nat→Bool) (c:Nat):Bool:=((c:Int)==0)||!(P (c-1))
def enC (P:Nat→Bool) (c:Nat):Bool:=((c:Int)==255)||!(P (c+1))
def s1C (P:Nat→Bool) (c:Nat) (s:Str):Str:=if (bgC P c&&(s != [60]))=true then s++[44] else s
def s2C (P:Nat→Bool) (c:Nat) (s:Str):Str:=if bgC P c=true then s1C P c s++hexS c else s1C P c s
def s3C (P:Nat→Bool) (c:Nat) (s:Str):Str:=if (enC P c&&!(bgC P c))=true then (s2C P c s++[45])++hexS c else s2C P c s
def refS (P:Nat→Bool):Nat→Str
 | 0=>[60]
 | c+1=>if P c=true then s3C P c (refS P c) else refS P c
theorem s3C_len (P:Nat→Bool) (c:Nat) (s:Str):(s3C P c s).length≤s.length+3:=by
 unfold s3C s2C s1C;cases bgC P c <;> cases enC P c <;> cases hs:(s != [60]) <;> simp [ze6]
theorem zdu (P:Nat→Bool):∀c,(refS P c).length≤1+3*c
 | 0=>by simp [refS]
 | c+1=>by
  have h1:=zdu P c;have h2:=s3C_len P c (refS P c);unfold refS;split
  ·omega
  ·omega
def clsT (a:Cl):Str:=if a=Cl.row 0 255 then [46] else refS a.has 256++[62]
theorem clsT_len (a:Cl):(clsT a).length≤1000:=by
 have:=zdu a.has 256;unfold clsT;split
 ·simp
 ·rw [List.length_append,List.length_singleton];omega
def jn (rows:List Str):Str:=Lib.join rows [44]
theorem jn_cons (x:Str) (r:List Str):jn (x::r)=x++Lib.joinTail [44] r:=Lib.join_cons x r [44]
theorem jn_snoc {rows:List Str} (h:rows≠[]) (x:Str):jn (rows++[x])=(jn rows++[44])++x:=by
 cases rows with
 | nil=>exact absurd rfl h
 | cons y r=>
  rw [List.cons_append,jn_cons,jn_cons];simp [Lib.joinTail,List.append_assoc]
theorem jn_one (x:Str):jn [x]=x:=Lib.join_one x [44]
theorem jn_ne {rows:List Str} (h:rows≠[]) (hx:∀x∈rows,x≠[]):jn rows≠[]:=by
 cases rows with
 | nil=>exact absurd rfl h
 | cons y r=>
  rw [jn_cons];have:=hx y (by simp);intro e;exact this (List.append_eq_nil_iff.1 e).1
def runT (c l:Nat):Str:=if c<l then hexS c++([45]++hexS l) else hexS c
theorem refS_run {P:Nat→Bool} {c l:Nat} (hl:l<256) (hP:∀j,c≤j→j≤l→P j=true) (hb:bgC P c=true) (he:enC P l=true):∀m,c+m≤l→refS P (c+m+1)=s1C P c (refS P c)++(if m=0∨c+m<l then hexS c else runT c l):=by
 intro m
 induction m with
 | zero=>
  intro h;rw [if_pos (.inl rfl),Nat.add_zero];rw [refS,if_pos (hP c (Nat.le_refl _) (by omega))];unfold s3C;rw [if_neg (by rw [hb];simp)];unfold s2C;rw [if_pos hb]
 | succ m ih=>
  intro h;have ih:=ih (by omega);have hbg:bgC P (c+(m+1))=false:=by
   unfold bgC;rw [show c+(m+1)-1=c+m by omega,hP (c+m) (by omega) (by omega)];simp;omega
  have ecm:c+m+1=c+(m+1):=by omega
  rw [refS,if_pos (hP _ (by omega) h)];have e2:s2C P (c+(m+1)) (refS P (c+(m+1)))=refS P (c+(m+1)):=by
   unfold s2C s1C;rw [if_neg (by rw [hbg];simp),if_neg (by rw [hbg];simp)]
  have hpre:refS P (c+(m+1))=s1C P c (refS P c)++hexS c:=by
   rw [← ecm,ih]
   by_cases hm:m=0
   ·rw [if_pos (.inl hm)]
   ·rw [if_pos (.inr (by omega))]
  unfold s3C;rw [e2,hbg,hpre]
  by_cases hlast:c+(m+1)<l
  ·have hen:enC P (c+(m+1))=false:=by
    unfold enC;rw [hP (c+(m+1)+1) (by omega) (by omega)];simp;omega
   rw [hen,if_neg (by simp),if_pos (.inr hlast)]
  ·obtain rfl:l=c+(m+1):=by omega
   rw [he,if_pos (show (true&&!false)=true from rfl),if_neg (by omega)];unfold runT;rw [if_pos (by omega)];simp [List.append_assoc]
theorem run_end (P:Nat→Bool):∀(m c:Nat),c+m=255→P c=true→∃l,c≤l∧l<256∧(∀j,c≤j→j≤l→P j=true)∧enC P l=true
 | 0,c,h,hP=>⟨c,Nat.le_refl _,by omega,fun j h1 h2=>by rw [show j=c by omega];exact hP,by unfold enC;rw [show c=255 by omega];rfl⟩
 | m+1,c,h,hP=>by
  cases hn:P (c+1)
  ·exact ⟨c,Nat.le_refl _,by omega,fun j h1 h2=>by rw [show j=c by omega];exact hP,by unfold enC;rw [hn];simp⟩
  ·obtain ⟨l,l1,l2,l3,l4⟩:=run_end P m (c+1) (by omega) hn;refine ⟨l,by omega,l2,fun j h1 h2=>?_,l4⟩
   by_cases e:j=c
   ·rw [e];exact hP
   ·exact l3 j (by omega) h2
theorem count_all {a:Cl}:a.count=256↔a=Cl.row 0 255:=by
 constructor
 ·intro h;have h:(List.range 256).countP a.has=(List.range 256).length:=by rw [List.length_range];exact h
  rw [List.countP_eq_length] at h;refine Cl.ext fun c hc=>?_;rw [h c (List.mem_range.2 hc),Cl.row,Cl.of_has _ hc];simp;omega
 ·rintro rfl;decide +kernel
theorem zbq {a:Cl}:za a (clsT a):=by
 refine ⟨_,zeo,fun h=>?_,fun h=>?_⟩
 ·have h:(a.count:Int)=256:=by simpa using h
  unfold clsT;rw [if_pos (count_all.1 (by omega))]
 ·have h:(a.count:Int)≠256:=by simpa using h
  have hne:a≠Cl.row 0 255:=fun e=>h (by have:=count_all.2 e;omega);have:=run (P:=fun k (s:List Str × Int)=>za.l1 a (za.j1 (clsT a)) k s.1 s.2) (fun s=>∃n:Nat,s.2=(n:Int)∧n≤256∧refS a.has n=[60]++jn s.1∧(n<256→a.has n=true→bgC a.has n=true)∧(∀x∈s.1,x≠[])∧s.1.length≤n) (fun s=>256-s.2.toNat) ?_ ([],0) ⟨0,rfl,by omega,rfl,fun _ _=>rfl,by simp,by simp⟩
  ·exact this
  ·rintro ⟨rows,c⟩ ⟨n,h1,h2,h3,h4,h5,h6⟩;simp only at h1 h3 h5 h6;subst h1
   by_cases hn:n<256
   ·cases hP:a.has n
    ·refine .inr ⟨(rows,(n:Int)+1),⟨n+1,by simp,by omega, ?_,fun h k=>?_,h5,by simp only;omega⟩,by simp only;omega,fun k hk=>⟨fun _=>⟨_,zbj hn,fun _=>⟨zk (by omega) (by omega),hk⟩,(fun h=>by rw [hP] at h;cases h)⟩,fun h=>absurd (by omega) (df h)⟩⟩
     ·rw [refS,if_neg (by rw [hP];simp)];exact h3
     ·unfold bgC;rw [Nat.add_sub_cancel,hP];simp
    ·obtain ⟨l,l1,l2,l3,l4⟩:=run_end a.has (255-n) n (by omega) hP;have hb:=h4 hn hP;have hr:=refS_run l2 l3 hb l4 (l-n) (by omega);rw [show n+(l-n)+1=l+1 by omega] at hr;have hrT:(if l-n=0∨n+(l-n)<l then hexS n else runT n l)=runT n l:=by
      by_cases e:l-n=0
      ·rw [if_pos (.inl e)];unfold runT;rw [if_neg (by omega)]
      ·rw [if_neg (by omega)]
     rw [hrT] at hr;have hnew:refS a.has (l+1)=[60]++jn (rows++[runT n l]):=by
      rw [hr,h3];unfold s1C;rw [hb]
      by_cases hrw:rows=[]
      ·subst hrw;rw [List.nil_append,jn_one,if_neg (by simp [jn,Lib.join_nil])];simp [jn,Lib.join_nil]
      ·have:=jn_ne hrw h5;rw [jn_snoc hrw,if_pos (by simpa using this)];simp [List.append_assoc]
     have hrn:runT n l≠[]:=by unfold runT;split <;> simp [hexS]
     have hlen:=zdu a.has (l+1);refine .inr ⟨(rows++[runT n l],((l+1:Nat):Int)),⟨l+1,rfl,by omega,hnew,fun h k=>?_,fun x hx=>?_,by simp;omega⟩,by simp only;omega,fun k hk=>⟨fun _=>⟨_,zbj hn,(fun h=>by rw [hP] at h;cases h),fun _=>?_⟩,fun h=>absurd (by omega) (df h)⟩⟩
     ·exfalso;unfold enC at l4;rw [k] at l4;have:(l:Int)=255:=by simpa using l4
      omega
     ·rcases List.mem_append.1 hx with hx | hx
      ·exact h5 x hx
      ·rw [List.mem_singleton.1 hx];exact hrn
     ·-- the run's end
      simp only at hk;have hk2:za.j2 (za.l1 a (za.j1 (clsT a)) k) rows (l:Int) (runT n l):=⟨by simp;omega,zk (by omega) (by omega),hk⟩;have hX:za.j3 (za.l1 a (za.j1 (clsT a)) k) rows (n:Int) (l:Int):=by
       refine ⟨_,zdp hn,fun hlt=>⟨_,zdp l2,by simp [ze6],by simp [ze6], ?_⟩,fun hlt=>?_⟩
       ·have hlt:=dt hlt;unfold runT at hk2;rw [if_pos (by omega)] at hk2;exact hk2
       ·have hlt:=df hlt;unfold runT at hk2;rw [if_neg (by omega)] at hk2;exact hk2
      refine run (P:=fun k' (j:Int)=>za.l2 a (za.j3 (za.l1 a (za.j1 (clsT a)) k) rows (n:Int)) k' j) (fun j=>∃i:Nat,j=(i:Int)∧n≤i∧i≤l) (fun j=>256-j.toNat) ?_ (n:Int) ⟨n,rfl,Nat.le_refl _,l1⟩;rintro j ⟨i,rfl,i1,i2⟩
      by_cases hil:i=l
      ·subst hil;refine .inl fun k'=>⟨zk (by omega) (by omega),fun _=>zk (by omega) (by omega),a.has (i+1),fun hd=>?_,fun hd=>?_,fun _=>hX⟩
       ·have hd:=dt hd;exact zbj (a:=a) (i:=i+1) (by omega)
       ·exfalso;rw [Bool.and_eq_true] at hd;have hd1:=dt hd.1;unfold enC at l4;rw [hd.2] at l4;have:(i:Int)=255:=by simpa using l4
        omega
      ·refine .inr ⟨((i+1:Nat):Int),⟨i+1,rfl,by omega,by omega⟩,by simp only [Int.toNat_natCast];omega,fun k' hk'=>⟨zk (by omega) (by omega),fun _=>zk (by omega) (by omega),a.has (i+1),fun hd=>zbj (a:=a) (i:=i+1) (by omega),fun _=>⟨zk (by omega) (by omega),hk'⟩,fun hd=>?_⟩⟩;exfalso;rw [l3 (i+1) (by omega) (by omega),Bool.and_true] at hd;exact absurd (by omega) (df hd)
   ·obtain rfl:n=256:=by omega
    have hlen:=zdu a.has 256;rw [h3] at hlen;have hjl:(jn rows).length≤1000:=by simp at hlen;omega
    refine .inl fun k=>⟨fun h=>absurd (dt h) (by omega),fun _=>⟨jn rows,⟨⟨by show rows.length≤_;omega,by show (jn rows).length≤_;omega⟩,rfl⟩,by simp;omega,by simp;omega, ?_⟩⟩;unfold clsT;rw [if_neg hne,h3]
def lvl (k:Int):Int:=if k=5 then 0 else if k=4 then 1 else if k=6∨k=7 then 2 else 3
def kd (d:List SNode) (i:Int):Int:=match at? d i with
 | some n=>n.1
 | none=>0
def brk (own lv:Int) (r:Str × Int):Str × Int:=if own<lv then (([40]++r.1)++[41],r.2+1) else r
def txN:Nat→List SNode→Int→Str × Int
 | 0,_,_=>([],0)
 | f+1,d,i=>
  let sub:=fun (j lv:Int)=>brk (lvl (kd d j)) lv (txN f d j)
  match at? d i with
  | none=>([],0)
  | some n=>
   if n.1=1 then ([40,41],1)
   else if n.1=2 then (clsT n.2.2.2.2.2.1,0)
   else if n.1=3 then (([34]++n.2.2.2.2.2.2)++[34],0)
   else if n.1=4 then ((sub n.2.1 1).1++(sub n.2.2.1 2).1,max (sub n.2.1 1).2 (sub n.2.2.1 2).2)
   else if n.1=5 then (((sub n.2.1 0).1++[124])++(sub n.2.2.1 1).1,max (sub n.2.1 0).2 (sub n.2.2.1 1).2)
   else if n.1=6 then ((sub n.2.1 2).1++[42],(sub n.2.1 2).2)
   else if n.1=7 then ((sub n.2.1 2).1++(((([123]++Lib.itoa n.2.2.2.1)++[44])++Lib.itoa n.2.2.2.2.1)++[125]),(sub n.2.1 2).2)
   else if n.1=8 then (([98,40]++(sub n.2.1 0).1)++[41],(sub n.2.1 0).2+1)
   else (([119,40]++(sub n.2.1 0).1)++[41],(sub n.2.1 0).2+1)
def sbN (f:Nat) (d:List SNode) (i lv:Int):Str × Int:=brk (lvl (kd d i)) lv (txN f d i)
theorem ze5 {d:List SNode} {i:Int} {n:SNode} (h:at? d i=some n):kd d i=n.1:=by unfold kd;rw [h]
section
variable {d : List SNode} {i : Int} {n : SNode} (h : at? d i = some n) (f : Nat)
include h
theorem tx1 (k:n.1=1):txN (f+1) d i=([40,41],1):=by unfold txN;rw [h];simp [k]
theorem tx2 (k:n.1=2):txN (f+1) d i=(clsT n.2.2.2.2.2.1,0):=by unfold txN;rw [h];simp [k]
theorem tx3 (k:n.1=3):txN (f+1) d i=(([34]++n.2.2.2.2.2.2)++[34],0):=by unfold txN;rw [h];simp [k]
theorem tx4 (k:n.1=4):txN (f+1) d i=((sbN f d n.2.1 1).1++(sbN f d n.2.2.1 2).1,max (sbN f d n.2.1 1).2 (sbN f d n.2.2.1 2).2):=by unfold txN;rw [h];simp [k,sbN]
theorem tx5 (k:n.1=5):txN (f+1) d i=(((sbN f d n.2.1 0).1++[124])++(sbN f d n.2.2.1 1).1,max (sbN f d n.2.1 0).2 (sbN f d n.2.2.1 1).2):=by unfold txN;rw [h];simp [k,sbN]
theorem tx6 (k:n.1=6):txN (f+1) d i=((sbN f d n.2.1 2).1++[42],(sbN f d n.2.1 2).2):=by unfold txN;rw [h];simp [k,sbN]
theorem tx7 (k:n.1=7):txN (f+1) d i=((sbN f d n.2.1 2).1++(((([123]++Lib.itoa n.2.2.2.1)++[44])++Lib.itoa n.2.2.2.2.1)++[125]),(sbN f d n.2.1 2).2):=by unfold txN;rw [h];simp [k,sbN]
theorem tx8 (k:n.1=8):txN (f+1) d i=(([98,40]++(sbN f d n.2.1 0).1)++[41],(sbN f d n.2.1 0).2+1):=by unfold txN;rw [h];simp [k,sbN]
theorem tx9 (k:n.1=9):txN (f+1) d i=(([119,40]++(sbN f d n.2.1 0).1)++[41],(sbN f d n.2.1 0).2+1):=by unfold txN;rw [h];simp [k,sbN]
end
theorem zdw {x:Int} (h0:0≤x) (h1:x≤255):(Lib.itoa x).length≤21:=Lib.itoa_length_le x (by omega) (by omega)
structure Lim (r:Str × Int) (m:Int):Prop where
 len:(r.1.length:Int)≤140737488354000*m
 lo:0≤r.2
 hi:r.2≤4*m
theorem brk_lim {own lv m:Int} {r:Str × Int} (h1:(r.1.length:Int)+2≤140737488354000*m) (h2:0≤r.2) (h3:r.2+1≤4*m):Lim (brk own lv r) m:=by
 unfold brk;split
 ·refine ⟨?_,by simp only;omega,by simp only;omega⟩;simp only [List.length_append,List.length_singleton];omega
 ·exact ⟨by omega,h2,by omega⟩
theorem tx_lim {d:List SNode} (ht:Txt d):∀(m:Nat) {f i:Int},Tr d f i→(txN m d i).1.length+2≤(140737488354000*(i-f+1))∧0≤(txN m d i).2∧(txN m d i).2+1≤4*(i-f+1)
 | 0,f,i,h=>by have:=h.le;simp only [txN,List.length_nil];omega
 | m+1,f,i,h=>by
  have ih:=fun {f i:Int} (h:Tr d f i)=>tx_lim ht m h;have sub:∀{f i:Int} (h:Tr d f i) (lv:Int),Lim (sbN m d i lv) (i-f+1):=fun {f i} h lv=>brk_lim (own:=lvl (kd d i)) (lv:=lv) (ih h).1 (ih h).2.1 (ih h).2.2;cases h with
  | leaf he hk hx h0=>
   rename_i n
   have hm:=ht n (by obtain ⟨k,_,hk⟩:=at_nn he;exact List.mem_of_getElem? hk);have hc:=clsT_len n.2.2.2.2.2.1;rcases hk with k | k | k
   ·rw [tx1 he m k];simp
   ·rw [tx2 he m k];simp only;omega
   ·rw [tx3 he m k];simp only [List.length_append,List.length_singleton];omega
  | one he hk ha hb hr h1=>
   rename_i n
   have hle:=h1.le;have s0:=sub h1 0;have s2:=sub h1 2;rw [← ha] at s0 s2;have a1:=s0.len;have a2:=s0.lo;have a3:=s0.hi;have b1:=s2.len;have b2:=s2.lo;have b3:=s2.hi;rcases hk with k | k | k | k
   ·rw [tx6 he m k];simp only [List.length_append,List.length_singleton];omega
   ·obtain ⟨r1,r2,r3⟩:=hr k;have e1:=zdw r1 (by omega);have e2:=zdw (show 0≤n.2.2.2.2.1 by omega) r3;rw [tx7 he m k];simp only [List.length_append,List.length_singleton];omega
   ·rw [tx8 he m k];simp only [List.length_append,List.length_cons,List.length_nil];omega
   ·rw [tx9 he m k];simp only [List.length_append,List.length_cons,List.length_nil];omega
  | two he hk ha hb h1 h2=>
   rename_i p n
   have l1:=h1.le;have l2:=h2.le;rcases hk with k | k
   ·have sA:=sub h2 1;have sB:=sub h1 2;rw [← ha] at sA;rw [← hb] at sB;have a1:=sA.len;have a2:=sA.lo;have a3:=sA.hi;have b1:=sB.len;have b2:=sB.lo;have b3:=sB.hi;rw [tx4 he m k];simp only [List.length_append];omega
   ·have sA:=sub h2 0;have sB:=sub h1 1;rw [← ha] at sA;rw [← hb] at sB;have a1:=sA.len;have a2:=sA.lo;have a3:=sA.hi;have b1:=sB.len;have b2:=sB.lo;have b3:=sB.hi;rw [tx5 he m k];simp only [List.length_append,List.length_singleton];omega
theorem sb_lim {d:List SNode} (ht:Txt d) (m:Nat) {f i:Int} (h:Tr d f i) (lv:Int):Lim (sbN m d i lv) (i-f+1):=
 let ⟨a,b,c⟩:=tx_lim ht m h
 brk_lim a b c
end Go.Proofs.YtamjkbneebghmaaDoor.V
namespace Go.Proofs.YtamjkbneebghmaaDoor.V
open Go
set_option linter.unusedVariables false
theorem zcs {x:Int} (h0:0≤x) (h1:x≤255):zb6 x (Lib.itoa x):=⟨zk (by omega) (by omega),rfl⟩
theorem own_in {k:Int} (h1:1≤k) (h9:k≤9):(zee gfm0 k=false→lvl k=3)∧(zee gfm0 k=true→lvI (zcf gfm0 k none)=lvl k):=by
 have:k=1∨k=2∨k=3∨k=4∨k=5∨k=6∨k=7∨k=8∨k=9:=by omega
 rcases this with rfl | rfl | rfl | rfl | rfl | rfl | rfl | rfl | rfl <;> decide
section
variable {α : Type} (F1 F2 F3 F4 F5 F6 F7 F8 F9 z : α)
theorem mp9:zp (zp (zp (zp (zp (zp (zp (zp (zp ([]:List (Int × α)) 1 F1) 2 F2) 3 F3) 4 F4) 5 F5) 6 F6) 7 F7) 8 F8) 9 F9=[(1,F1),(2,F2),(3,F3),(4,F4),(5,F5),(6,F6),(7,F7),(8,F8),(9,F9)]:=by simp [zp,zee]
theorem mp_1:zcf (zp (zp (zp (zp (zp (zp (zp (zp (zp ([]:List (Int × α)) 1 F1) 2 F2) 3 F3) 4 F4) 5 F5) 6 F6) 7 F7) 8 F8) 9 F9) 1 z=F1:=by rw [mp9];simp [zcf]
theorem mp_2:zcf (zp (zp (zp (zp (zp (zp (zp (zp (zp ([]:List (Int × α)) 1 F1) 2 F2) 3 F3) 4 F4) 5 F5) 6 F6) 7 F7) 8 F8) 9 F9) 2 z=F2:=by rw [mp9];simp [zcf]
theorem mp_3:zcf (zp (zp (zp (zp (zp (zp (zp (zp (zp ([]:List (Int × α)) 1 F1) 2 F2) 3 F3) 4 F4) 5 F5) 6 F6) 7 F7) 8 F8) 9 F9) 3 z=F3:=by rw [mp9];simp [zcf]
theorem mp_4:zcf (zp (zp (zp (zp (zp (zp (zp (zp (zp ([]:List (Int × α)) 1 F1) 2 F2) 3 F3) 4 F4) 5 F5) 6 F6) 7 F7) 8 F8) 9 F9) 4 z=F4:=by rw [mp9];simp [zcf]
theorem mp_5:zcf (zp (zp (zp (zp (zp (zp (zp (zp (zp ([]:List (Int × α)) 1 F1) 2 F2) 3 F3) 4 F4) 5 F5) 6 F6) 7 F7) 8 F8) 9 F9) 5 z=F5:=by rw [mp9];simp [zcf]
theorem mp_6:zcf (zp (zp (zp (zp (zp (zp (zp (zp (zp ([]:List (Int × α)) 1 F1) 2 F2) 3 F3) 4 F4) 5 F5) 6 F6) 7 F7) 8 F8) 9 F9) 6 z=F6:=by rw [mp9];simp [zcf]
theorem mp_7:zcf (zp (zp (zp (zp (zp (zp (zp (zp (zp ([]:List (Int × α)) 1 F1) 2 F2) 3 F3) 4 F4) 5 F5) 6 F6) 7 F7) 8 F8) 9 F9) 7 z=F7:=by rw [mp9];simp [zcf]
theorem mp_8:zcf (zp (zp (zp (zp (zp (zp (zp (zp (zp ([]:List (Int × α)) 1 F1) 2 F2) 3 F3) 4 F4) 5 F5) 6 F6) 7 F7) 8 F8) 9 F9) 8 z=F8:=by rw [mp9];simp [zcf]
theorem mp_9:zcf (zp (zp (zp (zp (zp (zp (zp (zp (zp ([]:List (Int × α)) 1 F1) 2 F2) 3 F3) 4 F4) 5 F5) 6 F6) 7 F7) 8 F8) 9 F9) 9 z=F9:=by rw [mp9];simp [zcf]
end
structure SbT (n_:SDesc→Int→Int→(Str × Int)→Prop) (d:List SNode) (f:Nat) (j:Int):Prop where
 run:∀lv,n_ d j lv (sbN f d j lv)
 lim:∀lv,Lim (sbN f d j lv) 1000
theorem one_in {n_:SDesc→Int→Int→(Str × Int)→Prop} {d:List SNode} {n:SNode} {f:Nat} (s:SbT n_ d f n.2.1) (lv:Int) {front back:Str} (h1:front.length≤1000) (h2:back.length≤1000):print_text_1.b n_ lv front back d n ((front++(sbN f d n.2.1 lv).1)++back,(sbN f d n.2.1 lv).2):=by
 have:=(s.lim lv).len;exact ⟨_,s.run lv,by omega,by rw [List.length_append];omega,rfl⟩
theorem two_in {n_:SDesc→Int→Int→(Str × Int)→Prop} {d:List SNode} {n:SNode} {f:Nat} (s:SbT n_ d f n.2.1) (t:SbT n_ d f n.2.2.1) {lv:Int} (hlv:0≤lv∧lv≤9) {bt:Str} (h1:bt.length≤1000):print_text_2.b n_ lv bt d n (((sbN f d n.2.1 lv).1++bt)++(sbN f d n.2.2.1 (lv+1)).1,max (sbN f d n.2.1 lv).2 (sbN f d n.2.2.1 (lv+1)).2):=by
 have a:=(s.lim lv).len;have b:=(t.lim (lv+1)).len;exact ⟨_,s.run lv,zk (by omega) (by omega),_,t.run (lv+1),by omega,by rw [List.length_append];omega,rfl⟩
def Kn (d:List SNode) (i:Int):Prop:=∃n,at? d i=some n∧1≤n.1∧n.1≤9
theorem Tr.kn {d:List SNode} {f i:Int} (h:Tr d f i):Kn d i:=by
 cases h with
 | leaf he hk _ _=>exact ⟨_,he,by omega,by omega⟩
 | one he hk _ _ _ _=>exact ⟨_,he,by omega,by omega⟩
 | two he hk _ _ _ _=>exact ⟨_,he,by omega,by omega⟩
theorem sb_of {d:List SNode} (ht:Txt d) (hl:d.length≤1000) (m:Nat) {f i:Int} (h:Tr d f i) (lv:Int):Lim (sbN m d i lv) 1000:=by
 have:=sb_lim ht m h lv;have h1:=h.le;have h2:=h.lt;exact ⟨by have:=this.len;omega,this.lo,by have:=this.hi;omega⟩
theorem text_own {n_:SDesc→Int→Int→(Str × Int)→Prop} {d:List SNode} (ht:Txt d) {f:Nat} {g i:Int} (h:Tr d g i) (hs:∀{g' j:Int},Tr d g' j→j<i→SbT n_ d f j) {lv:Int} (hlv:lv≤lvl (kd d i)) {r:Str × Int} (hr0:txN (f+1) d i=r):
  ∃n,at? d i=some n∧zf.j1 n_ d i lv r n (lvl n.1):=by
 cases h with
 | leaf he hk hx h0=>
  rename_i n
  rw [ze5 he] at hlv;have hno:¬ lvl n.1<lv:=by omega
  have hm:=ht n (by obtain ⟨k,_,hk⟩:=at_nn he;exact List.mem_of_getElem? hk);rcases hk with k | k | k
  ·refine ⟨n,he,fun h=>absurd (dt h) hno,fun _=>⟨r, ?_,rfl⟩⟩;rw [← hr0,k,mp_1];exact (tx1 he f k)
  ·refine ⟨n,he,fun h=>absurd (dt h) hno,fun _=>⟨r, ?_,rfl⟩⟩;rw [← hr0,k,mp_2];exact ⟨_,zbq,by rw [tx2 he f k]⟩
  ·refine ⟨n,he,fun h=>absurd (dt h) hno,fun _=>⟨r, ?_,rfl⟩⟩;rw [← hr0,k,mp_3];exact ⟨by simp;omega,by simp;omega,by rw [tx3 he f k]⟩
 | one he hk ha hb hr h1=>
  rename_i n
  rw [ze5 he] at hlv;have s:SbT n_ d f n.2.1:=by rw [ha];exact hs h1 (by omega)
  have hno:¬ lvl n.1<lv:=by omega
  rcases hk with k | k | k | k
  ·refine ⟨n,he,fun h=>absurd (dt h) hno,fun _=>⟨r, ?_,rfl⟩⟩;rw [← hr0,k,mp_6];exact ⟨(([]++(sbN f d n.2.1 2).1)++[42],(sbN f d n.2.1 2).2),one_in s 2 (front:=[]) (back:=[42]) (by simp) (by simp),by rw [tx6 he f k];simp⟩
  ·refine ⟨n,he,fun h=>absurd (dt h) hno,fun _=>⟨r, ?_,rfl⟩⟩;rw [← hr0,k,mp_7];obtain ⟨r1,r2,r3⟩:=hr k;have e1:=zdw r1 (show n.2.2.2.1≤255 by omega);have e2:=zdw (show 0≤n.2.2.2.2.1 by omega) r3;exact ⟨_,zcs r1 (by omega),by simp;omega,by simp;omega,_,zcs (by omega) r3,by simp;omega,by simp;omega,(([]++(sbN f d n.2.1 2).1)++(((([123]++Lib.itoa n.2.2.2.1)++[44])++Lib.itoa n.2.2.2.2.1)++[125]),(sbN f d n.2.1 2).2),one_in s 2 (front:=[]) (back:=((([123]++Lib.itoa n.2.2.2.1)++[44])++Lib.itoa n.2.2.2.2.1)++[125]) (by simp) (by simp;omega),by rw [tx7 he f k];simp⟩
  ·refine ⟨n,he,fun h=>absurd (dt h) hno,fun _=>⟨r, ?_,rfl⟩⟩;rw [← hr0,k,mp_8];have:=(s.lim 0).hi;have:=(s.lim 0).lo;exact ⟨(([98,40]++(sbN f d n.2.1 0).1)++[41],(sbN f d n.2.1 0).2+1),⟨(([98,40]++(sbN f d n.2.1 0).1)++[41],(sbN f d n.2.1 0).2),one_in s 0 (front:=[98,40]) (back:=[41]) (by simp) (by simp),zk (by omega) (by omega),rfl⟩,by rw [tx8 he f k]⟩
  ·refine ⟨n,he,fun h=>absurd (dt h) hno,fun _=>⟨r, ?_,rfl⟩⟩;rw [← hr0,k,mp_9];have:=(s.lim 0).hi;have:=(s.lim 0).lo;exact ⟨(([119,40]++(sbN f d n.2.1 0).1)++[41],(sbN f d n.2.1 0).2+1),⟨(([119,40]++(sbN f d n.2.1 0).1)++[41],(sbN f d n.2.1 0).2),one_in s 0 (front:=[119,40]) (back:=[41]) (by simp) (by simp),zk (by omega) (by omega),rfl⟩,by rw [tx9 he f k]⟩
 | two he hk ha hb h1 h2=>
  rename_i p n
  rw [ze5 he] at hlv;have l1:=h1.le;have s:SbT n_ d f n.2.1:=by rw [ha];exact hs h2 (by omega)
  have t:SbT n_ d f n.2.2.1:=by rw [hb];exact hs h1 (by omega)
  have hno:¬ lvl n.1<lv:=by omega
  rcases hk with k | k
  ·refine ⟨n,he,fun h=>absurd (dt h) hno,fun _=>⟨r, ?_,rfl⟩⟩;rw [← hr0,k,mp_4];exact ⟨(((sbN f d n.2.1 1).1++[])++(sbN f d n.2.2.1 2).1,max (sbN f d n.2.1 1).2 (sbN f d n.2.2.1 2).2),two_in s t (lv:=1) (by omega) (bt:=[]) (by simp),by rw [tx4 he f k];simp⟩
  ·refine ⟨n,he,fun h=>absurd (dt h) hno,fun _=>⟨r, ?_,rfl⟩⟩;rw [← hr0,k,mp_5];exact ⟨(((sbN f d n.2.1 0).1++[124])++(sbN f d n.2.2.1 1).1,max (sbN f d n.2.1 0).2 (sbN f d n.2.2.1 1).2),two_in s t (lv:=0) (by omega) (bt:=[124]) (by simp),by rw [tx5 he f k]⟩
theorem own_step {n_:SDesc→Int→Int→(Str × Int)→Prop} {d:List SNode} {i lv:Int} {r:Str × Int} {n:SNode} (h1:1≤n.1) (h9:n.1≤9) (h:zf.j1 n_ d i lv r n (lvl n.1)):
  (((!(zee gfm0 n.1)))=true→(zf.j1 n_ d i lv r n) 3)∧(((!(zee gfm0 n.1)))=false→(zf.j1 n_ d i lv r n) (lvI (zcf gfm0 n.1 none))):=by
 obtain ⟨o1,o2⟩:=own_in h1 h9;refine ⟨fun hm=>?_,fun hm=>?_⟩
 ·rw [← o1 (by simpa using hm)];exact h
 ·rw [o2 (by simpa using hm)];exact h
theorem print_in {d:List SNode} (ht:Txt d) (hl:d.length≤1000):∀(f:Nat) {g i:Int},Tr d g i→i<(f:Int)→(∀k lv,2*f≤k+1→lv≤lvl (kd d i)→zf.n k d i lv (txN f d i))∧∀k lv,2*f≤k→zf.n k d i lv (sbN f d i lv)
 | 0,g,i,h,hi=>by have:=h.le;omega
 | f+1,g,i,h,hi=>by
  have ih:=fun {g i:Int} (h:Tr d g i) (hi:i<(f:Int))=>print_in ht hl f h hi;have A:∀k lv,2*(f+1)≤k+1→lv≤lvl (kd d i)→zf.n k d i lv (txN (f+1) d i):=fun k lv hk hlv=>by
   obtain ⟨k,rfl⟩:∃m,k=m+1:=⟨k-1,by omega⟩;obtain ⟨n,hn,hj⟩:=text_own (n_:=zf.n k) ht (f:=f) h (fun h' hj=>⟨fun lv=>(ih h' (by omega)).2 k lv (by omega),sb_of ht hl f h'⟩) hlv rfl;obtain ⟨m,hm,k1,k9⟩:=h.kn;rw [hn] at hm;cases hm;exact ⟨n,hn,own_step k1 k9 hj⟩
  refine ⟨A,fun k lv hk=>?_⟩
  by_cases hlv:lvl (kd d i)<lv
  ·obtain ⟨k,rfl⟩:∃m,k=m+1:=⟨k-1,by omega⟩;obtain ⟨n,hn,k1,k9⟩:=h.kn;have hL:=tx_lim ht (f+1) h;have h1:=h.le;have h2:=h.lt;refine ⟨n,hn,own_step k1 k9 ⟨fun _=>⟨txN (f+1) d i, ?_,by simp;omega,by simp;omega,zk (by omega) (by omega), ?_⟩,fun hd=>?_⟩⟩
   ·have:=A k (lvl (kd d i)) (by omega) (Int.le_refl _)
    rwa [ze5 hn] at this
   ·unfold sbN brk;rw [if_pos hlv]
   ·rw [ze5 hn] at hlv;exact absurd hlv (df hd)
  ·have:=A k lv (by omega) (by omega);unfold sbN brk;rw [if_neg hlv];exact this
def txD (d:List SNode):Str × Int:=txN d.length d ((d.length:Int)-1)
theorem lvl_pos (k:Int):0≤lvl k:=by
 unfold lvl;split
 ·omega
 ·split
  ·omega
  ·split <;> omega
theorem zc8 {d:List SNode} (h:Tr d 0 ((d.length:Int)-1)) (hl:d.length≤1000) (ht:Txt d):zf d ((d.length:Int)-1) 0 (txD d):=by
 have:=h.le;exact ⟨2*d.length,(print_in ht hl d.length h (by omega)).1 _ 0 (by omega) (lvl_pos _)⟩
theorem zda {d:List SNode} (h:Tr d 0 ((d.length:Int)-1)) (hl:d.length≤1000) (ht:Txt d):zbn d (txD d).1:=⟨zk (by omega) (by omega),_,zc8 h hl ht,rfl⟩
theorem zx {d:List SNode} (h:Tr d 0 ((d.length:Int)-1)) (hl:d.length≤1000) (ht:Txt d):zo d (txD d).2:=⟨zk (by omega) (by omega),_,zc8 h hl ht,rfl⟩
theorem kd_emb {l l':List SNode} {c:Int} (h:Emb l l' c) {i:Int} {n:SNode} (hn:at? l i=some n):kd l' (i+c)=kd l i:=by
 rw [ze5 hn,ze5 (h.at' _ _ hn)];rfl
theorem tx_emb {l l':List SNode} {c:Int} (h:Emb l l' c):∀(m:Nat) {f i:Int},Tr l f i→txN m l' (i+c)=txN m l i
 | 0,_,_,_=>rfl
 | m+1,f,i,ht=>by
  have sub:∀{f i:Int} (t:Tr l f i) (lv:Int),sbN m l' (i+c) lv=sbN m l i lv:=fun t lv=>by
   obtain ⟨n,hn,_⟩:=t.kn;unfold sbN;rw [tx_emb h m t,kd_emb h hn]
  cases ht with
  | leaf he hk hx h0=>
   rename_i e
   have e3:=h.at' _ _ he;rcases hk with k | k | k
   ·rw [tx1 he m k,tx1 e3 m k]
   ·rw [tx2 he m k,tx2 e3 m k];rfl
   ·rw [tx3 he m k,tx3 e3 m k];rfl
  | one he hk ha hb hr h1=>
   rename_i e
   have e3:=h.at' _ _ he;have ea:(zed c e).2.1=(i-1)+c:=by simp only [zed,if_pos (show 4≤e.1 by omega),ha]
   rcases hk with k | k | k | k
   ·rw [tx6 he m k,tx6 e3 m k,ea,sub h1,ha]
   ·rw [tx7 he m k,tx7 e3 m k,ea,sub h1,ha];rfl
   ·rw [tx8 he m k,tx8 e3 m k,ea,sub h1,ha]
   ·rw [tx9 he m k,tx9 e3 m k,ea,sub h1,ha]
  | two he hk ha hb h1 h2=>
   rename_i p e
   have e3:=h.at' _ _ he;have ea:(zed c e).2.1=(p-1)+c:=by simp only [zed,if_pos (show 4≤e.1 by omega),ha]
   have eb:(zed c e).2.2.1=(i-1)+c:=by simp only [zed,if_pos hk,hb]
   rcases hk with k | k
   ·rw [tx4 he m k,tx4 e3 m k,ea,eb,sub h1,sub h2,ha,hb]
   ·rw [tx5 he m k,tx5 e3 m k,ea,eb,sub h1,sub h2,ha,hb]
theorem tx_fuel {d:List SNode}:∀(m k:Nat) {f i:Int},Tr d f i→i<(m:Int)→i<(k:Int)→txN m d i=txN k d i
 | 0,_,_,_,h,hm,_=>by have:=h.le;omega
 | _,0,_,_,h,_,hk=>by have:=h.le;omega
 | m+1,k+1,f,i,h,hm',hk'=>by
  have sub:∀{f j:Int} (t:Tr d f j) (lv:Int),j<i→sbN m d j lv=sbN k d j lv:=fun t lv hj=>by
   unfold sbN;rw [tx_fuel m k t (by omega) (by omega)]
  cases h with
  | leaf he hk hx h0=>
   rcases hk with e | e | e
   ·rw [tx1 he m e,tx1 he k e]
   ·rw [tx2 he m e,tx2 he k e]
   ·rw [tx3 he m e,tx3 he k e]
  | one he hk ha hb hr h1=>
   rcases hk with e | e | e | e
   ·rw [tx6 he m e,tx6 he k e,ha,sub h1 _ (by omega)]
   ·rw [tx7 he m e,tx7 he k e,ha,sub h1 _ (by omega)]
   ·rw [tx8 he m e,tx8 he k e,ha,sub h1 _ (by omega)]
   ·rw [tx9 he m e,tx9 he k e,ha,sub h1 _ (by omega)]
  | two he hk ha hb h1 h2=>
   have:=h1.le;rcases hk with e | e
   ·rw [tx4 he m e,tx4 he k e,ha,hb,sub h1 _ (by omega),sub h2 _ (by omega)]
   ·rw [tx5 he m e,tx5 he k e,ha,hb,sub h1 _ (by omega),sub h2 _ (by omega)]
end Go.Proofs.YtamjkbneebghmaaDoor.V
namespace Go.Proofs.YtamjkbneebghmaaDoor.V
open Go
set_option linter.unusedVariables false
def oDot:List SNode:=[(2,0,0,0,0,Cl.row 0 255,([]:Str))]
def oOr:List SNode:=zcp 5 oDot oDot
def oS:List SNode:=zch 6 oOr
def oW:List SNode:=zch 8 oS
theorem zec:Tr oDot 0 ((oDot.length:Int)-1):=leaf_tr (.inr rfl) ⟨rfl,rfl⟩
theorem oOr_tr:Tr oOr 0 ((oOr.length:Int)-1):=pair_tr zec zec (.inr rfl)
theorem oS_tr:Tr oS 0 ((oS.length:Int)-1):=zew oOr_tr (.inl rfl)
theorem oW_tr:Tr oW 0 ((oW.length:Int)-1):=zew oS_tr (.inr (.inl rfl))
theorem no_txt {d:List SNode} (h:∀n∈d,n.2.2.2.2.2.2=[]):Txt d:=fun n hn=>by rw [h n hn];simp
theorem awake06:zb2 true:=by
 have u8:∀c:Int,0≤c∧c≤255→InR .u8 c:=fun c h=>inR_u8.2 h;have tS:Txt oS:=no_txt (by decide +kernel);have tW:Txt oW:=no_txt (by decide +kernel);have tD:Txt oDot:=no_txt (by decide +kernel);have w1:zbn oS [40,46,124,46,41,42]:=by
  have:=zda oS_tr (by decide +kernel) tS
  rwa [show (txD oS).1=[40,46,124,46,41,42] by decide +kernel] at this
 have w2:zo oS 1:=by
  have:=zx oS_tr (by decide +kernel) tS
  rwa [show (txD oS).2=1 by decide +kernel] at this
 have w3:zbn oW [98,40,40,46,124,46,41,42,41]:=by
  have:=zda oW_tr (by decide +kernel) tW
  rwa [show (txD oW).1=[98,40,40,46,124,46,41,42,41] by decide +kernel] at this
 have w4:zo oW 2:=by
  have:=zx oW_tr (by decide +kernel) tW
  rwa [show (txD oW).2=2 by decide +kernel] at this
 have w5:za (Cl.row 97 98) [60,54,49,45,54,50,62]:=by
  have:=zbq (a:=Cl.row 97 98)
  rwa [show clsT (Cl.row 97 98)=[60,54,49,45,54,50,62] by decide +kernel] at this
 have w6:za (0#256) [60,62]:=by
  have:=zbq (a:=0#256)
  rwa [show clsT (0#256)=[60,62] by decide +kernel] at this
 have w7:za (Cl.ofWords 5 0 0 0) [60,48,48,44,48,50,62]:=by
  have:=zbq (a:=Cl.ofWords 5 0 0 0)
  rwa [show clsT (Cl.ofWords 5 0 0 0)=[60,48,48,44,48,50,62] by decide +kernel] at this
 have w8:zo oDot 0:=by
  have:=zx zec (by decide +kernel) tD
  rwa [show (txD oDot).2=0 by decide +kernel] at this
 refine ⟨Cl.row 0 255,zdm (u8 0 (by decide)) (u8 255 (by decide)),oOr,Pair_in zec zec (by decide) (by decide),oS,zfc oOr_tr (by decide +kernel),oW,zfc oS_tr (by decide +kernel),_,w1,_,fun _=>w2,_,rfl,_,fun _=>w3,_,rfl,_,fun _=>w4,_,fun _=>zdm (u8 97 (by decide)) (u8 98 (by decide)),_,fun _=>w5,_,rfl,_,fun _=>w6,_,fun _=>w7,_,rfl,_,fun _=>w8, ?_⟩;decide
theorem guard06 {d:List SNode} (ht:Txt d):∃r4 r6:Bool,zq d r4∧(r4=true→zbx d r6)∧(r4=true→r6=true→d.length≤100∧Tr d 0 ((d.length:Int)-1)):=by
 obtain ⟨r,h,k⟩:=few_ex ht;cases r
 ·exact ⟨false,false,h,(fun h=>by cases h),fun h=>by cases h⟩
 ·have hl:=k rfl;obtain ⟨s,hs,ks⟩:=form_ex (by omega) ht;exact ⟨true,s,h,fun _=>hs,fun _ e=>⟨hl,ks e⟩⟩
theorem pair_txt {k:Int} {a b:List SNode} (ha:Txt a) (hb:Txt b):Txt (zcp k a b):=fun n hn=>by
 unfold zcp at hn;rcases List.mem_append.1 hn with hn | hn
 ·rcases List.mem_append.1 hn with hn | hn
  ·exact ha n hn
  ·obtain ⟨m,hm,rfl⟩:=List.mem_map.1 hn;exact hb m hm
 ·rw [List.mem_singleton.1 hn];simp
theorem wrap_txt {k:Int} {a:List SNode} (ha:Txt a):Txt (zch k a):=fun n hn=>by
 unfold zch at hn;rcases List.mem_append.1 hn with hn | hn
 ·exact ha n hn
 ·rw [List.mem_singleton.1 hn];simp
def topK (d:List SNode):Int:=kd d ((d.length:Int)-1)
theorem sb_emb {l l':List SNode} {c:Int} (h:Emb l l' c) (t:Tr l 0 ((l.length:Int)-1)) {m:Nat} (hm:l.length≤m) (lv:Int):sbN m l' ((l.length:Int)-1+c) lv=brk (lvl (topK l)) lv (txD l):=by
 obtain ⟨n,hn,_⟩:=t.kn;have:=t.le;unfold sbN txD topK;rw [kd_emb h hn,tx_emb h m t,tx_fuel m l.length t (by omega) (by omega)]
theorem wrap_emb {k:Int} {a:List SNode}:Emb a (zch k a) 0:=ze9 _
theorem deep_frame {a:List SNode} (t:Tr a 0 ((a.length:Int)-1)):(txD (zch 8 a)).2=(txD a).2+1:=by
 have h:=tx8 (zdy 8 a) a.length rfl;have e:=sb_emb (wrap_emb (k:=8)) t (Nat.le_refl _) 0;rw [Int.add_zero] at e;have hd:txD (zch 8 a)=txN (a.length+1) (zch 8 a) (a.length:Int):=by
  unfold txD;rw [zc3,show ((a.length+1:Nat):Int)-1=(a.length:Int) by omega]
 rw [hd,h];simp only;rw [e];unfold brk;rw [if_neg (by have:=lvl_pos (topK a);omega)]
theorem deep_star {a:List SNode} (t:Tr a 0 ((a.length:Int)-1)):(txD (zch 6 a)).2=(brk (lvl (topK a)) 2 (txD a)).2:=by
 have h:=tx6 (zdy 6 a) a.length rfl;have e:=sb_emb (wrap_emb (k:=6)) t (Nat.le_refl _) 2;rw [Int.add_zero] at e;have hd:txD (zch 6 a)=txN (a.length+1) (zch 6 a) (a.length:Int):=by
  unfold txD;rw [zc3,show ((a.length+1:Nat):Int)-1=(a.length:Int) by omega]
 rw [hd,h];simp only;rw [e]
theorem deep_pair {k:Int} {a b:List SNode} (hk:k=4∨k=5) (ta:Tr a 0 ((a.length:Int)-1)) (tb:Tr b 0 ((b.length:Int)-1)):(txD (zcp k a b)).2=max (brk (lvl (topK a)) (if k=4 then 1 else 0) (txD a)).2 (brk (lvl (topK b)) (if k=4 then 2 else 1) (txD b)).2:=by
 obtain ⟨ea,eb⟩:=pair_embs (k:=k) (a:=a) (b:=b);have hd:txD (zcp k a b)=txN ((a.length+b.length)+1) (zcp k a b) ((a.length:Int)+(b.length:Int)):=by
  unfold txD;rw [zdv,show ((a.length+b.length+1:Nat):Int)-1=(a.length:Int)+(b.length:Int) by omega]
 have e1:=fun lv=>sb_emb ea ta (m:=a.length+b.length) (by omega) lv;have e2:=fun lv=>sb_emb eb tb (m:=a.length+b.length) (by omega) lv;rw [Int.add_zero] at e1;rw [show (b.length:Int)-1+(a.length:Int)=(a.length:Int)+(b.length:Int)-1 by omega] at e2;rcases hk with rfl | rfl
 ·rw [hd,tx4 (zea 4 a b) _ rfl];simp only;rw [e1,e2];rfl
 ·rw [hd,tx5 (zea 5 a b) _ rfl];simp only;rw [e1,e2];rfl
theorem zfa (own lv:Int) (r:Str × Int):(brk own lv r).2=r.2+(if own<lv then 1 else 0):=by
 unfold brk;split <;> simp
theorem deep_lim {d:List SNode} (t:Tr d 0 ((d.length:Int)-1)) (hl:d.length≤1000) (ht:Txt d):0≤(txD d).2∧(txD d).2≤4000:=by
 have:=tx_lim ht d.length t;unfold txD;omega
theorem lvl_of {k:Int} (h1:1≤k) (h9:k≤9):(lvl k<1↔k=5)∧(lvl k<2↔k=5∨k=4):=by
 have:k=1∨k=2∨k=3∨k=4∨k=5∨k=6∨k=7∨k=8∨k=9:=by omega
 rcases this with rfl | rfl | rfl | rfl | rfl | rfl | rfl | rfl | rfl <;> decide
theorem law06_PrintDeep_true {a b:List SNode} (ha:Txt a) (hb:Txt b):zd a b true:=by
 obtain ⟨r4,r8,h4,h8,hA⟩:=guard06 ha;obtain ⟨r6,r10,h6,h10,hB⟩:=guard06 hb;refine ⟨true,awake06,r4,fun _=>h4,r6,fun _=>h6,r8,fun h=>h8 (by cases r4 <;> simp_all),r10,fun h=>h10 (by cases r6 <;> simp_all),fun _=>⟨true,awake06,rfl⟩,fun hc=>?_⟩;simp only [Bool.not_true,Bool.false_or,Bool.or_eq_false_iff,Bool.not_eq_false'] at hc;obtain ⟨⟨⟨g1,g2⟩,g3⟩,g4⟩:=hc;obtain ⟨la,ta⟩:=hA g1 g3;obtain ⟨lb,tb⟩:=hB g2 g4;obtain ⟨n,hn,n1,n9⟩:=ta.kn;obtain ⟨m,hm,m1,m9⟩:=tb.kn;have ka:topK a=n.1:=ze5 hn;have kb:topK b=m.1:=ze5 hm;obtain ⟨la1,la2⟩:=lvl_of n1 n9;obtain ⟨lb1,lb2⟩:=lvl_of m1 m9;have da:=deep_lim ta (by omega) ha;have db:=deep_lim tb (by omega) hb;have fin:∀left right or star:Int,left=(if n.1=5 then 1 else 0)→right=(if m.1=5∨m.1=4 then 1 else 0)→or=(if m.1=5 then 1 else 0)→star=(if n.1=5∨n.1=4 then 1 else 0)→zd.j1 a b true (txD a).2 (txD b).2 left right or star:=by
  intro left right or star h1 h2 h3 h4;have q1:=deep_frame ta;have q2:=deep_star ta;have q3:=deep_pair (k:=5) (.inr rfl) ta tb;have q4:=deep_pair (k:=4) (.inl rfl) ta tb;rw [zfa,ka] at q2;rw [zfa,zfa,ka,kb] at q3 q4;rw [show (if (5:Int)=4 then (1:Int) else 0)=0 from rfl,show (if (5:Int)=4 then (2:Int) else 1)=1 from rfl,if_neg (show ¬ lvl n.1<0 by have:=lvl_pos n.1;omega)] at q3;rw [show (if (4:Int)=4 then (1:Int) else 0)=1 from rfl,show (if (4:Int)=4 then (2:Int) else 1)=2 from rfl] at q4;simp only [la1,la2,lb1,lb2] at q2 q3 q4;rw [← h4] at q2;rw [← h3,Int.add_zero] at q3;rw [← h1,← h2] at q4;have b1:0≤left∧left≤1:=by rw [h1];split <;> omega
  have b2:0≤right∧right≤1:=by rw [h2];split <;> omega
  have b3:0≤or∧or≤1:=by rw [h3];split <;> omega
  have b4:0≤star∧star≤1:=by rw [h4];split <;> omega
  have l1:(zch 8 a).length≤1000:=by rw [zc3];omega
  have l2:(zcp 5 a b).length≤1000:=by rw [zdv];omega
  have l3:(zcp 4 a b).length≤1000:=by rw [zdv];omega
  have l4:(zch 6 a).length≤1000:=by rw [zc3];omega
  refine ⟨_,zfc ta (by omega),_,zx (zew ta (.inr (.inl rfl))) l1 (wrap_txt ha),zk (by omega) (by omega),_,fun _=>Pair_in ta tb (by omega) (by omega),_,fun _=>zx (pair_tr ta tb (.inr rfl)) l2 (pair_txt ha hb),fun _=>zk (by omega) (by omega),_,rfl,_,fun _=>Pair_in ta tb (by omega) (by omega),_,fun _=>zx (pair_tr ta tb (.inl rfl)) l3 (pair_txt ha hb),fun _=>zk (by omega) (by omega),fun _=>zk (by omega) (by omega),_,rfl,_,fun _=>zfc ta (by omega),_,fun _=>zx (zew ta (.inl rfl)) l4 (wrap_txt ha),fun _=>zk (by omega) (by omega), ?_⟩;rw [q1,q2,q3,q4];simp
 refine ⟨_,zx ta (by omega) ha,_,zx tb (by omega) hb,zk (by omega) (by omega),n,hn,zk (by omega) (by omega),m,hm, ?_⟩;have j2:∀left right or,left=(if n.1=5 then 1 else 0)→right=(if m.1=5∨m.1=4 then 1 else 0)→or=(if m.1=5 then 1 else 0)→zd.j2 a b true (txD a).2 (txD b).2 n left right or:=fun left right or h1 h2 h3=>by
  refine ⟨fun h=>fin _ _ _ _ h1 h2 h3 ?_,fun h=>fin _ _ _ _ h1 h2 h3 ?_⟩
  ·rw [if_pos (by simpa using h)]
  ·rw [if_neg (by simpa using h)]
 have j3:∀left right,left=(if n.1=5 then 1 else 0)→right=(if m.1=5∨m.1=4 then 1 else 0)→zd.j3 a b true (txD a).2 (txD b).2 n m left right:=fun left right h1 h2=>by
  refine ⟨fun h=>j2 _ _ _ h1 h2 ?_,fun h=>j2 _ _ _ h1 h2 ?_⟩
  ·rw [if_pos (by simpa using h)]
  ·rw [if_neg (by simpa using h)]
 have j4:∀left,left=(if n.1=5 then 1 else 0)→zd.j4 a b true (txD a).2 (txD b).2 n m left:=fun left h1=>by
  refine ⟨fun h=>j3 _ _ h1 ?_,fun h=>j3 _ _ h1 ?_⟩
  ·rw [if_pos (by simpa using h)]
  ·rw [if_neg (by simpa using h)]
 refine ⟨fun h=>j4 _ ?_,fun h=>j4 _ ?_⟩
 ·rw [if_pos (by simpa using h)]
 ·rw [if_neg (by simpa using h)]
open Go.ChangeShapes Go.WideShapes Go.RowKit
structure Rd (P:Program) (t:TypeId) {α:Type} (E:En α) (G:α→Prop):Prop where
 sz:P.cellsOf t=E.sz
 rd:∀{H:Type} (enc:TypeId × Value→H) (w:World) (fuel:Nat) (cs:List Value) (x:DataW H × List MemPlace),
  DataW.trod enc P w 0 (fun _=>true) true fuel t cs=some x→(∀n∈x.1.weights P t,n≤reachBytes)→∃y,E.R w (fun b=>b<w.heap.size) cs y∧G y
 vl:∀(w:World) (v:Value),Value.okWide P w .any 0 t v→(∃y,E.R w (fun b=>b<w.heap.size) v.cells.toList y)→v=E.val v.cells.toList
theorem Rd.int {P:Program} {t:TypeId} {k:IntKind} (ht:P.underlying t=some (.int k)) (hc:P.cellsOf t=1):Rd P t (En.int k) (InR k):=by
 refine ⟨hc, ?_, ?_⟩
 ·intro H enc w fuel cs x h _;obtain ⟨n,rfl,_,hw⟩:=DataW.trod_int ht h;have:InR k n:=by simpa [Lit.wf,InR] using hw
  exact ⟨n,⟨rfl,this⟩,this⟩
 ·intro w v hv _;obtain ⟨n,rfl⟩:=okWide_int ht hv;rfl
theorem Rd.str {P:Program} {t:TypeId} (ht:P.underlying t=some .string) (hc:P.cellsOf t=1):Rd P t En.str (fun y=>y.length≤140737488351232):=by
 refine ⟨hc, ?_, ?_⟩
 ·intro H enc w fuel cs x h hwt;obtain ⟨s,rfl,hx,hs⟩:=DataW.trod_string ht h;have hl:s.data.toList.length≤9223372036854775807:=by simpa [maxLen] using hs
  have h2:s.data.toList.length≤140737488351232:=hwt _ (by rw [hx];simp [DataW.weights]);exact ⟨s.data.toList,⟨rfl,hl⟩,h2⟩
 ·intro w v hv _;simp only [Value.okWide,ht,Cell.okWide,Cell.ok] at hv;cases v <;> simp at hv;rfl
theorem zdz {H:Type} {P:Program} {e:TypeId}:∀{l:List (DataW H)} {d:DataW H},d∈l→∀n∈d.weights P e,n∈DataW.weightsAll P e l
 | [],_,h,_,_=>by cases h
 | d'::l,d,h,n,hn=>by
  simp only [DataW.weightsAll,List.mem_append];rcases List.mem_cons.1 h with rfl | h
  ·exact .inl hn
  ·exact .inr (zdz h n hn)
theorem Rd.slice {P:Program} {t e:TypeId} {α:Type} {E:En α} {G:α→Prop} (ht:P.underlying t=some (.slice e)) (hc:P.cellsOf t=1) (hby:Nat.blt 0 (P.bytesOf e)=true) (he:Rd P e E G):
  Rd P t (En.slice E) (fun xs=>xs.length≤140737488351232∧∀y∈xs,G y):=by
 refine ⟨hc, ?_, ?_⟩
 ·intro H enc w fuel cs x h hwt;rcases Deep.open_slice ht h with ⟨rfl,_⟩ | ⟨a,len,cap,m,n,D,Pl,rfl,hb,hl,hm,hmm,hxe,hx⟩
  ·exact ⟨[],⟨_,rfl,slV_nil E _ _⟩,Nat.zero_le _,by simp⟩
  ·simp only [if_true] at hmm;subst hmm;have hall:∀i,i<len→∃p:α × List Value,w.cells? 0 (a.add (i*P.cellsOf e)) (P.cellsOf e)=some p.2∧E.R w (fun b=>b<w.heap.size) p.2 p.1∧G p.1:=fun i hi=>by
    obtain ⟨cs',h1,h2⟩:=hx i (by omega);obtain ⟨y,h3,h4⟩:=he.rd enc w n cs' _ h2 fun q hq=>hwt q (by
     rw [hxe];simp only [DataW.weights,ht,List.mem_cons,List.mem_append];exact .inr (.inl (zdz (List.mem_map.2 ⟨i,by simpa using hi,rfl⟩) q hq)))
    exact ⟨(y,cs'),h1,h3,h4⟩
   have hmax2:len≤140737488351232:=by
    have h1:=hwt ((len+(m-len))*P.bytesOf e) (by rw [hxe];simp [DataW.weights,ht]);have h2:0<P.bytesOf e:=Nat.le_of_ble_eq_true hby;have h3:(len+(m-len))*1≤(len+(m-len))*P.bytesOf e:=Nat.mul_le_mul_left _ h2;have h4:reachBytes=140737488351232:=rfl;omega
   have hmax:len≤lim:=by have:maxLen≤lim:=by decide
                         omega
   by_cases h0:len=0
   ·subst h0;exact ⟨[],⟨_,rfl,some a,m,rfl,Nat.zero_le _,(fun h=>by cases h),Nat.zero_le _,fun h=>absurd rfl h⟩,Nat.zero_le _,by simp⟩
   have hinh:Inhabited (α × List Value):=⟨(hall 0 (by omega)).choose⟩;obtain ⟨f,hf⟩:=Deep.choose_lt hall;have hsz:=E.pos;rw [← he.sz] at hsz;obtain ⟨hcell0,hblk⟩:a.spot=none∧a.block<w.heap.size:=by
    obtain ⟨_,hl2,hcl⟩:=World.cells?_some (hf 0 (by omega)).1;have h2:=hcl 0 hsz;rw [List.getElem?_eq_getElem (by omega)] at h2;simp only [Nat.zero_mul,Addr.add,if_true,World.cell?] at h2;cases hb2:w.heap[a.block]? with
    | none=>simp [hb2] at h2
    | some o=>
     refine ⟨?_,(Array.getElem?_eq_some_iff.1 hb2).1⟩;cases o <;> simp [hb2] at h2;exact h2.1
   refine ⟨(List.range len).map (fun i=>(f i).1),⟨_,rfl,some a,m, ?_,by simpa using hl,(fun h=>by cases h),by simpa using hmax,fun _=>⟨a.block,a.off,(List.range len).map (fun i=>(f i).2), ?_,hblk,⟨by simp, ?_⟩, ?_⟩⟩,by simpa using hmax2, ?_⟩
   ·simp
   ·cases a;simp at hcell0;subst hcell0;rfl
   ·intro i c y hc1 hy1;have hi:i<len:=by have:=(List.getElem?_eq_some_iff.1 hc1).1;simpa using this
    simp [hi] at hc1 hy1;subst hc1;subst hy1;exact (hf i hi).2.1
   ·have hlens:∀c∈(List.range len).map (fun i=>(f i).2),c.length=E.sz:=by
     intro c hc;simp only [List.mem_map,List.mem_range] at hc;obtain ⟨i,hi,rfl⟩:=hc;rw [(World.cells?_some (hf i hi).1).2.1,he.sz]
    intro j u hj;have hjl:j<len*E.sz:=by
     have:=(List.getElem?_eq_some_iff.1 hj).1;rw [zdx hlens] at this;simpa using this
    have hp:0<E.sz:=E.pos;have hi:j / E.sz<len:=Nat.div_lt_of_lt_mul (by rw [Nat.mul_comm];exact hjl);have hk:j % E.sz<E.sz:=Nat.mod_lt _ hp;obtain ⟨_,hl2,hcl⟩:=World.cells?_some (hf _ hi).1;have hcell:=hcl (j % E.sz) (by rw [he.sz];exact hk);rw [he.sz] at hl2;have hg:=ze8 hlens (i:=j / E.sz) (cs:=(f (j / E.sz)).2) (j:=j % E.sz) (u:=(f (j / E.sz)).2[j % E.sz]'(by omega)) (by simp [hi]) (by simp);rw [Nat.mul_comm,Nat.div_add_mod] at hg;rw [hg] at hj;rw [List.getElem?_eq_getElem (by omega),hj,Deep.add_add,he.sz,Nat.mul_comm,Nat.div_add_mod] at hcell;rw [← hcell];cases a;simp at hcell0;subst hcell0;rw [zc2]
   ·intro y hy;simp only [List.mem_map,List.mem_range] at hy;obtain ⟨i,hi,rfl⟩:=hy;exact (hf i hi).2.2
 ·intro w v hv _;simp only [Value.okWide,ht,Cell.okWide,Cell.ok] at hv;cases v <;> simp at hv;rfl
theorem u64_word {n:Int} (h:InR .u64 n):∃m:Nat,m<2 ^ 64∧n=m:=by
 simp [InR,IntKind.min,IntKind.max,IntKind.signed,IntKind.bits] at h;exact ⟨n.toNat,by omega,by omega⟩
theorem Rd.cls {P:Program} {t e:TypeId} (ht:P.underlying t=some (.array 4 e)) (hc:P.cellsOf t=4) (he:P.underlying e=some (.int .u64)) (hce:P.cellsOf e=1):Rd P t En.cls (fun _=>True):=by
 refine ⟨hc, ?_, ?_⟩
 ·intro H enc w fuel cs x h _;obtain ⟨xs,m,rfl,rfl,hlen,hn,hx⟩:=DataW.trod_array ht h;rw [hc] at hlen
  match cs,hlen with
  | [u0,u1,u2,u3],_=>
   have hx':∀i (hi:i<4) u,[u0,u1,u2,u3][i]?=some u→∃q:Nat,q<2 ^ 64∧u = .int .u64 q:=by
    intro i hi u hu;have h1:=hx i hi;rw [hce,Nat.mul_one,List.getElem?_eq_getElem (by omega)] at h1;have h2:List.take 1 (List.drop i [u0,u1,u2,u3])=[u]:=by
     match i,hi with
     | 0,_ | 1,_ | 2,_ | 3,_=>simp at hu;subst hu;rfl
    rw [h2] at h1;obtain ⟨n,h3,_,h4⟩:=DataW.trod_int he h1;obtain ⟨q,hq,rfl⟩:=u64_word (n:=n) (by simpa [Lit.wf,InR] using h4);simp at h3;exact ⟨q,hq,h3⟩
   obtain ⟨q0,h0,rfl⟩:=hx' 0 (by omega) u0 rfl;obtain ⟨q1,h1,rfl⟩:=hx' 1 (by omega) u1 rfl;obtain ⟨q2,h2,rfl⟩:=hx' 2 (by omega) u2 rfl;obtain ⟨q3,h3,rfl⟩:=hx' 3 (by omega) u3 rfl;refine ⟨Cl.ofWords q0 q1 q2 q3, ?_,trivial⟩;obtain ⟨e0,e1,e2,e3⟩:=Cl.ofWords_word h0 h1 h2 h3;show _=zy _;unfold zy;rw [e0,e1,e2,e3]
 ·intro w v hv _;simp only [Value.okWide,ht] at hv;obtain ⟨cs,rfl,_⟩:=hv;simp [En.val,En.cls,Value.cells]
structure RdF (P:Program) (fs:List Field) (o:Nat) {α:Type} (E:En α) (G:α→Prop):Prop where
 rd:∀{H:Type} (enc:TypeId × Value→H) (w:World) (fuel:Nat) (cs:List Value) (xs:List (DataW H × List MemPlace)),xs.length=fs.length →
  (∀(i:Nat) (f:Field),fs[i]?=some f→DataW.trod enc P w 0 (fun _=>true) true fuel f.type ((cs.drop f.offset).take (P.cellsOf f.type))=xs[i]?) →
  (∀n∈DataW.weightsEach P (fs.map (·.type)) (xs.map (·.1)),n≤reachBytes)→∃y,E.R w (fun b=>b<w.heap.size) ((cs.drop o).take E.sz) y∧G y
theorem RdF.last {P:Program} {f:Field} {o:Nat} {α:Type} {E:En α} {G:α→Prop} (h:Rd P f.type E G) (ho:f.offset=o):RdF P [f] o E G:=⟨by
 intro H enc w fuel cs xs hl hx hw;obtain ⟨x,rfl⟩:∃x,xs=[x]:=List.length_eq_one_iff.1 hl;have h1:=hx 0 f rfl;rw [ho,h.sz] at h1;exact h.rd enc w fuel _ x h1 fun n hn=>hw n (by simp [DataW.weightsEach,hn])⟩
theorem RdF.solo {P:Program} {fs:List Field} {o:Nat} {α:Type} {E:En α} {G:α→Prop} (h:RdF P fs o E G):RdF P fs o E.solo G:=⟨h.rd⟩
theorem zel {xs:List Value} {o m n:Nat}:(xs.drop o).take (m+n)=(xs.drop o).take m++(xs.drop (o+m)).take n:=by
 rw [List.take_add,List.drop_drop]
theorem RdF.cons {P:Program} {f:Field} {fs:List Field} {o:Nat} {α β:Type} {E:En α} {F:En β} {G:α→Prop} {K:β→Prop} (h:Rd P f.type E G) (ho:f.offset=o) (hr:RdF P fs (o+E.sz) F K):RdF P (f::fs) o (E.cat F) (fun x=>G x.1∧K x.2):=⟨by
 intro H enc w fuel cs xs hl hx hw;obtain ⟨x,xs',rfl⟩:∃x xs',xs=x::xs':=by
  cases xs with
  | nil=>simp at hl
  | cons x xs'=>exact ⟨x,xs',rfl⟩
 have h1:=hx 0 f rfl;rw [ho,h.sz] at h1;obtain ⟨y,hy1,hy2⟩:=h.rd enc w fuel _ x h1 fun n hn=>hw n (by simp [DataW.weightsEach,hn]);obtain ⟨z,hz1,hz2⟩:=hr.rd enc w fuel cs xs' (by simpa using hl) (fun i g hg=>by have:=hx (i+1) g (by simpa using hg);simpa using this) fun n hn=>hw n (by
  simp only [List.map_cons,DataW.weightsEach,List.mem_append];exact .inr hn)
 exact ⟨(y,z),⟨_,_,zel,hy1,hz1⟩,hy2,hz2⟩⟩
theorem Rd.struct {P:Program} {t:TypeId} {fs:Array Field} {α:Type} {E:En α} {G:α→Prop} (ht:P.underlying t=some (.struct fs)) (ha:E.agg=true) (hc:P.cellsOf t=E.sz) (h:RdF P fs.toList 0 E G):Rd P t E G:=by
 refine ⟨hc, ?_, ?_⟩
 ·intro H enc w fuel cs x hx hw;obtain ⟨xs,n,rfl,rfl,hlen,hxl,hf⟩:=DataW.trod_struct ht hx;obtain ⟨y,hy1,hy2⟩:=h.rd enc w n cs xs (by simpa using hxl) (fun i f hi=>hf i f (by simpa using hi)) fun q hq=>hw q (by
   simp only [DataW.weights,ht];exact hq)
  rw [List.drop_zero,List.take_of_length_le (by rw [hlen,hc];exact Nat.le_refl _)] at hy1;exact ⟨y,hy1,hy2⟩
 ·intro w v hv _;obtain ⟨cs,rfl,_⟩:=okWide_struct ht hv;unfold En.val;rw [ha];simp [Value.cells]
theorem Rd.open {P:Program} {t:TypeId} {α:Type} {E:En α} {G:α→Prop} (hr:Rd P t E G) {H:Type} {enc:TypeId × Value→H} {W:World} {v:Value} {d:DataW H} {p:List MemPlace}
  (hv:Value.okWide P W .any 0 t v) (hd:DataW.Trod enc P W 0 (fun _=>true) true t v d p) (hw:∀n∈d.weights P t,n≤reachBytes):∃y,(Pd.rep E y).p ⟨W,fun _=>False,fun _ h=>h.elim⟩ v∧G y:=by
 obtain ⟨fuel,h⟩:=hd;obtain ⟨y,hy,hg⟩:=hr.rd enc W fuel _ _ h hw;refine ⟨y,⟨v.cells.toList,hr.vl W v hv ⟨y,hy⟩, ?_⟩,hg⟩;exact E.mono (fun b hb=>⟨hb,fun h=>h⟩) hy
theorem Ex.below {s s':St} (h:Ex s s'):Below s.w.heap.size s.w s'.w:=⟨h.mv.os,h.mv.tape,h.mv.output,h.mv.size,fun k hk=>h.mv.blk k hk (fun h=>h)⟩
theorem okWide_any {P:Program} {W:World} {b:Nat} {t:TypeId} {v:Value} (h:Value.okWide P W .any b t v):Value.okWide P W .any 0 t v:=by
 unfold Value.okWide Row.okWide Cell.okWide Cell.ok World.has at *;exact h
section
variable {H : Type} {enc : TypeId × Value → H} {P : Program}
theorem stays {W W':World} (hl:laidOutB P=true) (hb:Below W.heap.size W W') {sp:Nat→Bool}:∀{ts:List TypeId} {vs:List Value} {ds:List (DataW H)} {ps:List MemPlace},
  (ts.all fun t=>P.readableRec t&&decide (t<P.types.size))=true→DataW.TrodAll enc P W 0 (fun _=>true) true ts vs ds ps→(∀p∈ps,p.block<W.heap.size)→(∀p∈ps,sp p.block=true) →
  DataW.TrodAll enc P W' 0 sp true ts vs ds ps
 | [],vs,ds,ps,_,h,_,_=>by
  obtain ⟨rfl,rfl,rfl⟩:=trodAll_nil h;exact trodAll_mk0
 | t::ts,vs,ds,ps,ha,h,hlt,hsp=>by
  obtain ⟨v,vs',d,ds',p,q,rfl,rfl,rfl,h1,h2⟩:=trodAll_cons h;simp only [List.all_cons,Bool.and_eq_true,decide_eq_true_eq] at ha;refine trodAll_cons_mk (WideElems.Trod_stays hl ha.1.1 ha.1.2 h1 (fun x hx=>hb.same (hlt x (List.mem_append_left _ hx))) fun x hx=>hsp x (List.mem_append_left _ hx)) ?_;exact stays hl hb (by simpa using ha.2) h2 (fun x hx=>hlt x (List.mem_append_right _ hx)) fun x hx=>hsp x (List.mem_append_right _ hx)
theorem post_law {f:Func} {s:ChangeSpec} {apart fresh handsOn again:Bool} {W W':World} {args:Array Value} {v:Value} {ds gs:List (DataW H)} {before:List MemPlace} {tb:TypeId}
  (hW:DataW.Whole enc P f.params.toList s.vars apart W args.toList ds gs before) (hb:Below W.heap.size W W') (hl:laidOutB P=true)
  (hrd:(f.params.toList.all fun t=>P.readableRec t&&decide (t<P.types.size))=true) (hs:s.vars=[]) (hrt:f.resultTypes = #[tb]) (hub:P.underlying tb=some .bool) (hv:v = .bool true)
  (hres:(s.fn H (ds++gs)).results=[.lit (.bool true)]) (hargs:(s.fn H (ds++gs)).args=ds) (hvars:(s.fn H (ds++gs)).vars=[]):s.post enc P f apart fresh handsOn again W args v W':=by
 subst hv;have hlt:=hW.lt;have hW':=hW;obtain ⟨p,q,hA,hV,rfl,hz,hn⟩:=hW;rw [hs] at hV;obtain ⟨rfl,rfl⟩:=trodVars_none hV;have hsub:∀x∈p,x∈p++([]:List MemPlace):=fun x hx=>by simpa using hx
 have harg:∀sp:Nat→Bool,(∀x∈p++([]:List MemPlace),sp x.block=true)→DataW.TrodAll enc P W' 0 sp true f.params.toList args.toList (s.fn H (ds++[])).args p:=fun sp hsp=>by
  rw [hargs];exact stays hl hb hrd hA (fun x hx=>hlt x (hsub x hx)) fun x hx=>hsp x (hsub x hx)
 have hvar:∀sp:Nat→Bool,DataW.TrodVars enc P W' sp s.vars (s.fn H (ds++[])).vars []:=fun sp=>by rw [hs,hvars];exact rfl
 have hr:∀(b:Nat) (sp:Nat→Bool) (hd:Bool),DataW.TrodAll enc P W' b sp hd f.resultTypes.toList ((Value.bool true).resultList f.resultTypes.size) (s.fn H (ds++[])).results []:=fun b sp hd=>by
  rw [hres,hrt];exact trodAll_cons_mk (shut_bool hub _) trodAll_mk0
 have hold:∀x∈p++([]:List MemPlace),(fun b=>decide (b<W.heap.size)) x.block=true:=fun x hx=>by simpa using hlt x hx
 refine ⟨ds,[],p++[],[],p,[],hW',hr _ _ _,harg _ hold,hvar _,World.keptBut_mono (fun x hx=>⟨hx, ?_⟩) (hb.frame (·∈p++[])),fun _=>?_⟩
 ·simpa using hx
 ·refine ⟨ok_one hrt rfl (okWide_bool_mk hub _),_,_,([]++p)++[],⟨[]++p,[],trodAll_append (harg _ (fun _ _=>rfl)) (hr _ _ _),hvar _,rfl, ?_, ?_⟩, ?_⟩
  ·intro b off hp;have hp':MemPlace.cell b off∈p++([]:List MemPlace):=by simpa using hp
   rw [hb.frozen (p:=⟨b,off,none⟩) (hlt _ hp')];exact hz b off hp'
  ·intro ha;simpa using hn ha
  ·intro x hx _;simpa using hx
end
end Go.Proofs.YtamjkbneebghmaaDoor.V
namespace Go.Proofs.YtamjkbneebghmaaDoor.V
open Go Go.ChangeShapes Go.WideShapes Go.RowKit
set_option linter.unusedVariables false
def lst:List (String × DataW Unit):=[("math/bits.deBruijn32tab",Rows.laid_math_bits_deBruijn32tab),("math/bits.deBruijn64tab",Rows.laid_math_bits_deBruijn64tab),("internal/strconv.uint64pow10",Rows.laid_internal_strconv_uint64pow10),("scantling/print.levels",Rows.laid_scantling_print_levels)]
def stepsL:List (Lit × DataW Unit):=[(.int .i64 4,.lit (.int .i64 1)),(.int .i64 5,.lit (.int .i64 0)),(.int .i64 6,.lit (.int .i64 2)),(.int .i64 7,.lit (.int .i64 2))]
theorem key_int {P:Program} {k:TypeId} (hk:P.underlying k=some (.int .i64)) {v:Value} {l:Lit} (h:keyOf P k v=some l):∃n:Int,v = .int .i64 n∧l = .int .i64 n∧InR .i64 n:=by
 rw [keyOf_int hk] at h;unfold mapKey at h;rw [hk] at h;cases v <;> simp at h;obtain ⟨⟨rfl,h2⟩,rfl⟩:=h;exact ⟨_,rfl,rfl,by simpa [Lit.wf,InR] using h2⟩
theorem one_of_int {P:Program} {t:TypeId} {v:Value} (ht:P.underlying t=some (.int .i64)) (h:v.formed P t=true):v.cells.toList=[v]:=by
 cases v <;> simp [Value.formed,ht] at h <;> rfl
def entY (e:MapEntry):Int × Option Nat:=match e.key with | .int _ n=>(n,zcf gfmS n none) | _=>(0,none)
def entL (q:Lit × DataW Unit):Int × Option Nat:=match q.1 with | .int _ n=>(n,zcf gfmS n none) | _=>(0,none)
def Steps (W:World):Prop:=∃m t fr es clock ys,W.heap[0]?=some (.cells #[.map (some m)] t fr)∧W.heap[m]?=some (.map es clock)∧Fmst es clock ys∧ys.Perm gfmS
theorem steps_of {W:World} {enc:TypeId × Value→Unit} {base:Nat} {sp:Nat→Bool} {held:Bool} {fuel:Nat} {cs:Array Value} {p:List MemPlace} (hv:W.var? Tryd.prog "scantling/print.levels"=some cs) (hd:DataW.trod enc Tryd.prog W base sp held fuel 62 cs.toList=some (.map stepsL,p)):Steps W:=by
 have hg':Tryd.prog.globalNamed "scantling/print.levels"=some 0:=by kernel_rfl
 have hkt:Tryd.prog.underlying 3=some (.int .i64):=Tryd.underlying3;have het:Tryd.prog.underlying 3=some (.int .i64):=Tryd.underlying3;rcases WideElems.open_map Tryd.underlying62 hd with ⟨_,hx⟩ | ⟨m,es,clock,n,rfl,hcs,hb,_,F,hx⟩
 ·simp at hx
 ·simp only [Prod.mk.injEq,DataW.map.injEq] at hx;have hp:stepsL.Perm (es.toList.map (WideElems.rg Tryd.prog 3 (WideElems.elemAt enc Tryd.prog W base sp held n 3))):=by
   rw [hx.1];exact sorted_perm _
  have ent:∀x∈es.toList,∃i:Int,x.key = .int .i64 i∧InR .i64 i∧entL (WideElems.rg Tryd.prog 3 (WideElems.elemAt enc Tryd.prog W base sp held n 3) x)=(i,zcf gfmS i none)∧x.val=fidV (zcf gfmS i none):=by
   intro x hx';obtain ⟨y,hy⟩:=F.reads x hx';have hrg:=WideElems.rg_of hy;have hm:y∈stepsL:=hp.mem_iff.2 (List.mem_map.2 ⟨x,hx',hrg⟩);obtain ⟨i,hk1,hk2,hk3⟩:=key_int hkt (WideElems.rd_key hy);obtain ⟨z,hz1,hz2⟩:=WideElems.rd_val hy;unfold WideElems.elemAt at hz1;split at hz1
   case isFalse=>cases hz1
   rename_i hf
   rw [one_of_int het hf] at hz1;obtain ⟨v,hv1,hv2,_⟩:=DataW.trod_int het hz1;have hv1:x.val = .int .i64 v:=by simpa using hv1
   refine ⟨i,hk1,hk3,by rw [hrg];simp only [entL,hk2], ?_⟩;rw [hv1];subst hv2;unfold stepsL at hm;simp only [List.mem_cons,List.not_mem_nil,or_false] at hm;rcases hm with rfl | rfl | rfl | rfl
   all_goals
    simp only [Lit.int.injEq,true_and] at hk2;subst hk2;simp only [DataW.lit.injEq,Lit.int.injEq,true_and] at hz2;subst hz2;rfl
  obtain ⟨o,ho,hcell⟩:∃t fr,W.heap[0]?=some (.cells #[.map (some m)] t fr):=by
   unfold World.var? at hv;rw [hg'] at hv;simp only [Option.bind_some] at hv;split at hv
   ·rename_i cs' t' fr' hc
    refine ⟨t',fr', ?_⟩;rw [hc];simp only [Option.some.injEq] at hv;rw [hv,← Array.toArray_toList (xs:=cs),hcs]
   ·cases hv
  refine ⟨m,o,ho,es,clock,es.toList.map entY,hcell,hb,⟨F.stamped,by simp,fun i e q h1 h2=>?_⟩, ?_⟩
  ·have hm:=List.mem_of_getElem? h1;obtain ⟨j,hk1,hk3,_,hval⟩:=ent e hm;rw [List.getElem?_map,h1] at h2;simp only [Option.map_some,Option.some.injEq] at h2;subst h2;have hr:=inR_i64.1 hk3;simp only [entY,hk1];exact ⟨trivial,hr,hval⟩
  ·have h3:=(hp.map entL).symm;have e1:stepsL.map entL=gfmS:=by kernel_rfl
   rw [e1,List.map_map] at h3;refine List.Perm.trans (List.Perm.of_eq (List.map_congr_left fun x hx'=>?_)) h3;obtain ⟨j,hk1,_,hL,_⟩:=ent x hx';simp only [Function.comp,entY,hk1];exact hL.symm
def Tabs (W:World):Prop:=Lib.TabIs Tryd.prog W "internal/strconv.uint64pow10" .u64 Lib.pow10Tab∧Steps W
theorem tab_of_laid {W:World} (h:laidMetH Tryd.prog lst W):Tabs W:=by
 have h':laidMet Tryd.prog lst W:=h;unfold lst at h';refine ⟨?_, ?_⟩
 ·have e:(Rows.laid_internal_strconv_uint64pow10:DataW Unit)=Lib.tabData .u64 Lib.pow10Tab:=by kernel_rfl
  have h2:=h'.tail.tail;rw [e] at h2;exact Lib.tabIs_of_head (g:=2) (t:=102) (e:=25) (n:=20) (by kernel_rfl) (by kernel_rfl) Tryd.underlying102 Tryd.underlying25 (by kernel_rfl) (by kernel_rfl) h2
 ·have e:(Rows.laid_scantling_print_levels:DataW Unit) = .map stepsL:=by kernel_rfl
  have h2:=h'.tail.tail.tail;rw [e] at h2;obtain ⟨ps,⟨g',t',cs,fuel,p,q,hg',ht',hvar,hd,_,_⟩,_⟩:=h2;have hg:Tryd.prog.globalNamed "scantling/print.levels"=some 0:=by kernel_rfl
  have hty:(Tryd.prog.globals[0]?).map (·.type)=some 62:=by kernel_rfl
  obtain rfl:=Option.some.inj (hg.symm.trans hg');obtain rfl:=Option.some.inj (hty.symm.trans ht');exact steps_of hvar hd
theorem gl_of_tab {W:World} (h:Tabs W):Gl ⟨W,fun _=>False,fun _ h=>h.elim⟩:=by
 obtain ⟨h1,h3⟩:=h;refine ⟨fun p hp=>?_,fun p hp=>?_⟩
 ·unfold gtab at hp;obtain rfl:=List.mem_singleton.1 hp;refine ⟨fun h=>h, ?_⟩;unfold Lib.TabIs World.var? at h1;have hg:Tryd.prog.globalNamed "internal/strconv.uint64pow10"=some 2:=by kernel_rfl
  rw [hg] at h1;simp only [Option.bind_some] at h1;split at h1
  ·rename_i cs t fr hc
   refine ⟨t,fr, ?_⟩;show W.heap[2]?=_;rw [hc];simp only [Option.some.injEq] at h1;rw [h1];simp [Lib.pow10Tab]
  ·cases h1
 ·unfold gmap at hp;obtain rfl:=List.mem_singleton.1 hp;obtain ⟨m,t,fr,es,clock,ys,k1,k2,k3,k4⟩:=h3;exact ⟨fun h=>h,m,t,fr,es,clock,ys,k1,fun h=>h,k2,k3,k4⟩
noncomputable def laidWorld (os:Os):World:=World.doorLaid Tryd.prog 400 os
theorem laid_met (os:Os) (args:Array Value):laidMetH Tryd.prog lst ((laidWorld os).forCall (fun _ _=>0) ⟨#[],args,[]⟩).memory:=
 laidMetH_of_parts (laidMet_of_run' 8 (by kernel_rfl) (by kernel_rfl)) (by kernel_rfl)
theorem weigh {H:Type} {P:Program} {ts:List TypeId} {ds:List (DataW H)} (h:(DataW.weightsEach P ts ds).all (·≤reachBytes)=true) (j:Nat) {t:TypeId} {d:DataW H} (ht:ts[j]?=some t) (hd:ds[j]?=some d):∀n∈d.weights P t,n≤reachBytes:=fun n hn=>by
 have:=List.all_eq_true.1 h n (DataW.weights_mem_each ht hd n hn);simpa using this
end Go.Proofs.YtamjkbneebghmaaDoor.V
