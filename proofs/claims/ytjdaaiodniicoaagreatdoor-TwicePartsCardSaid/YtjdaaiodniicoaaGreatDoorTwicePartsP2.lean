/-
  The texts that the law's proof needs, part 2.
-/
import Derived.DeepKeys3
import Derived.Lib.ItoaNum
import Derived.Lib.SlBytesConst
import Derived.Test.YtjdaaiodniicoaaGreatDoorTwicePartsP1

namespace Go.Proofs.YtjdaaiodniicoaaGreatDoor.V
open Go Go.MapKept
set_option linter.unusedVariables false
section
variable {u : Bool} [Dr u]
abbrev kvCls:Cl→Value:=fun x=>.agg (zbu x).toArray
theorem kvCls_inj {x y:Cl} (h:kvCls x=kvCls y):x=y:=by
 simp only [kvCls,zbu,Value.agg.injEq] at h;have h':=congrArg Array.toList h;simp only [List.cons.injEq,Value.int.injEq,true_and,and_true] at h';obtain ⟨e0,e1,e2,e3⟩:=h';refine Cl.ext_words fun i hi=>?_;have:i=0∨i=1∨i=2∨i=3:=by omega
 rcases this with rfl | rfl | rfl | rfl <;> omega
theorem zj5 {P:Program} {kt e:TypeId} (ht:P.underlying kt=some (.array 4 e)) (he:P.underlying e=some (.int .u64)) (hct:P.cellsOf kt=4) (hce:P.cellsOf e=1) (hk:P.keyType kt=true) (hts:∃m,P.types.size=m+1) (x:Cl):
  ∃l,keyOf P kt (kvCls x)=some l:=by
 obtain ⟨m,hm⟩:=hts;have hf:(kvCls x).formed P kt=true:=by
  simp [Value.formed,ht,hct,zbu]
 have one:∀i,i<4→P.keyLits (m+1) e [.int .u64 (x.word i)]=some [.int .u64 (x.word i)]:=fun i hi=>by
  have hw:=Cl.word_lt x i;have:(Lit.int .u64 (x.word i)).wf=true:=by
   simp [Lit.wf,IntKind.min,IntKind.max,IntKind.signed,IntKind.bits];omega
  simp [Program.keyLits,he,this]
 have hl:P.keyLits (P.types.size+1) kt (zbu x)=some [.int .u64 (x.word 0),.int .u64 (x.word 1),.int .u64 (x.word 2),.int .u64 (x.word 3)]:=by
  rw [hm];have l4:(zbu x).length=4:=rfl;have e4:List.range 4=[0,1,2,3]:=rfl;have c0:((zbu x).drop (0*1)).take 1=[.int .u64 (x.word 0)]:=rfl;have c1:((zbu x).drop (1*1)).take 1=[.int .u64 (x.word 1)]:=rfl;have c2:((zbu x).drop (2*1)).take 1=[.int .u64 (x.word 2)]:=rfl;have c3:((zbu x).drop (3*1)).take 1=[.int .u64 (x.word 3)]:=rfl;rw [Program.keyLits.eq_def];simp only [ht];rw [if_pos (by rw [l4,hct]),e4];simp only [hce,List.mapM_cons,List.mapM_nil,c0,c1,c2,c3,one 0 (by omega),one 1 (by omega),one 2 (by omega),one 3 (by omega)];rfl
 refine ⟨.string (keyBytes [.int .u64 (x.word 0),.int .u64 (x.word 1),.int .u64 (x.word 2),.int .u64 (x.word 3)]), ?_⟩;unfold keyOf;rw [ht];simp only [hk,hf,Bool.and_self,if_true,kvCls,Value.cells,hl,Option.map_some]
theorem key_cls {P:Program} {kt e:TypeId} (ht:P.underlying kt=some (.array 4 e)) (he:P.underlying e=some (.int .u64)) (hct:P.cellsOf kt=4) (hce:P.cellsOf e=1) (hk:P.keyType kt=true) (hts:∃m,P.types.size=m+1)
  (hk2:P.keyTypeAt 2 kt=true) (htl:P.tiled 2 kt=true):KeyT P kt En.cls kvCls where
 val:=fun h=>by cases h;rfl
 inj:=kvCls_inj
 check:=fun w em x=>by
  obtain ⟨l,hl⟩:=zj5 ht he hct hce hk hts x;exact (deep_law (m:=2) (by decide) hk2 htl (by rw [ht])).check w em hl
 find:=fun w x es hes=>by
  obtain ⟨l,hl⟩:=zj5 ht he hct hce hk hts x;exact (deep_law (m:=2) (by decide) hk2 htl (by rw [ht])).find w hl es fun e' he'=>by
   obtain ⟨y,hy⟩:=hes e' he';rw [hy];exact zj5 ht he hct hce hk hts y
 stays:=fun w x=>by
  obtain ⟨l,hl⟩:=zj5 ht he hct hce hk hts x;exact (deep_law (m:=2) (by decide) hk2 htl (by rw [ht])).stays w hl
end
end Go.Proofs.YtjdaaiodniicoaaGreatDoor.V
namespace Go.Proofs.YtjdaaiodniicoaaGreatDoor.V
open Go
set_option linter.unusedVariables false
abbrev SItem:Type:=Int × Int × Int × Int
abbrev Stwo_twice:Type:=(List SItem) × (List SItem) × Bool
abbrev SOn_scantling_twice_two_search:Type:=Int × Stwo_twice
abbrev SNode:Type:=Int × Int × Int × Int × Int × Cl × Str
abbrev SDesc:Type:=(List SNode)
abbrev SVerdict:Type:=Int × (List Int) × (List Int) × Int × Int × Int × Int
abbrev Sof_twice:Type:=SDesc
abbrev SFound_scantling_twice_two_search:Type:=SVerdict × Stwo_twice
abbrev SSpace_scantling_twice_two_search:Type:=Stwo_twice × (Stwo_twice × Str→Prop) × (Stwo_twice × (List SOn_scantling_twice_two_search)→Prop) × (Stwo_twice × Bool→Prop)
abbrev Smade_scantling_twice_two_search:Type:=Stwo_twice × Int × Int
abbrev SBranch:Type:=(List SItem) × Int
abbrev Sstep_next:Type:=SNode × SItem × Int
def zdo (x:SItem):List Int:=[x.1,x.2.1,x.2.2.1,x.2.2.2]
def zes (s:List SItem):List Int:=s.flatMap zdo
def zlg (l:List Int):Str:=l.flatMap fun n=>Lib.itoa n++[32]
def keyS (s:List SItem):Str:=zlg (zes s)
def zj7 (s:List SItem) (r:Str):Prop:=s.length≤1000∧r=keyS s
def zdz (x:List SItem) (n:Int) (r:List SItem):Prop:=0≤n∧n≤2147483648∧r=[]
def sgnI (x y:Int):Int:=if x<y then -1 else if y<x then 1 else 0
def zh6:List Int→List Int→Int
 | x::a,y::b=>if x<y then -1 else if y<x then 1 else zh6 a b
 | _,_=>0
def zli:List Int→Int
 | []=>0
 | x::l=>if x≠0 then x else zli l
def numsL (s:List SItem):List Int:=(s.length:Int)::zes s
def cmpItem (x y:SItem):Int:=zli [sgnI x.1 y.1,sgnI x.2.1 y.2.1,sgnI x.2.2.1 y.2.2.1,sgnI x.2.2.2 y.2.2.2]
def zdu (a b:List SItem):Int:=zh6 (numsL a) (numsL b)
def ze0 (d:List SNode) (x:SItem):Bool:=
 if x.1=5 then (x.2.1==0&&x.2.2.2==0)&&(decide (0≤x.2.2.1)&&decide (x.2.2.1≤65535))
 else match at? d x.2.1 with
  | none=>false
  | some n=>
   if x.1=1 then x.2.2.1==0&&x.2.2.2==0
   else if x.1=2 then ((n.1==7&&decide (0≤x.2.2.1))&&decide (x.2.2.1≤x.2.2.2))&&decide (x.2.2.2≤n.2.2.2.2.1)
   else if x.1=3 then ((n.1==3&&x.2.2.2==0)&&decide (0≤x.2.2.1))&&decide (x.2.2.1<(n.2.2.2.2.2.2.length:Int))
   else if x.1=4 then ((n.1==9&&x.2.2.2==0)&&decide (0≤x.2.2.1))&&decide (x.2.2.1≤255)
   else false
def opn (d:List SNode):List SItem→List (List SItem)
 | []=>[]
 | x::rest=>
  if x.1=5 then (if x.2.2.1=0 then [rest] else [])
  else match at? d x.2.1 with
  | none=>[]
  | some n=>
   if x.1=2 then (if x.2.2.1=0 then [rest] else [])++(if 0<x.2.2.2 then [(1,n.2.1,0,0)::(2,x.2.1,max (x.2.2.1-1) 0,x.2.2.2-1)::rest] else [])
   else if n.1=1 then [rest]
   else if n.1=3 then [(3,x.2.1,0,0)::rest]
   else if n.1=4 then [(1,n.2.1,0,0)::(1,n.2.2.1,0,0)::rest]
   else if n.1=5 then [(1,n.2.1,0,0)::rest,(1,n.2.2.1,0,0)::rest]
   else if n.1=6 then [rest,(1,n.2.1,0,0)::x::rest]
   else [(2,x.2.1,n.2.2.2.1,n.2.2.2.2.1)::rest]
def rdy (d:List SNode):List SItem→Bool
 | []=>true
 | x::_=>x.1==3||x.1==4||(x.1==1&&match at? d x.2.1 with | some n=>n.1==2||n.1==8||n.1==9 | none=>false)
def lv (d:List SNode):Nat→List SItem→Option (List (List SItem))
 | 0,_=>none
 | h+1,s=>if rdy d s=true then some [s] else ((opn d s).mapM (lv d h)).map List.flatten
def nzN (l:List Bool) (n:SNode):Bool:=
 if n.1=1 then true
 else if n.1=4 then (at? l n.2.1).getD false&&(at? l n.2.2.1).getD false
 else if n.1=5 then (at? l n.2.1).getD false||(at? l n.2.2.1).getD false
 else if n.1=6 then true
 else if n.1=7 then decide (n.2.2.2.1=0)||(at? l n.2.1).getD false
 else false
def nzL (d:List SNode):List Bool:=d.foldl (fun l n=>l++[nzN l n]) []
def nz (d:List SNode) (i:Int):Bool:=(at? (nzL d) i).getD false
structure ROk (d:List SNode):Prop where
 two:∀(i:Int) n,at? d i=some n→(n.1=4∨n.1=5)→(0≤n.2.1∧n.2.1<i)∧(0≤n.2.2.1∧n.2.2.1<i)
 one:∀(i:Int) n,at? d i=some n→(n.1=6∨n.1=7∨n.1=8∨n.1=9)→0≤n.2.1∧n.2.1<i
 rep:∀(i:Int) n,at? d i=some n→n.1=7→0≤n.2.2.2.1∧n.2.2.2.1≤n.2.2.2.2.1∧n.2.2.2.2.1≤255
 kind:∀(i:Int) n,at? d i=some n→1≤n.1∧n.1≤9
 ntx:∀(i:Int) n,at? d i=some n→n.1=3→n.2.2.2.2.2.2≠[]
 nn:∀(i:Int) n,at? d i=some n→(n.1=6∨n.1=7)→nz d n.2.1=false
structure DOk (d:List SNode):Prop where
 len:d.length≤1000
 txt:∀n∈d,n.2.2.2.2.2.2.length≤9223372036854775807
def zd6 (d:List SNode) (s:List SItem):Bool:=s.all (ze0 d)
abbrev sat (n:Nat):Int:=((min 2 n:Nat):Int)
structure Can (f:List SItem→Nat) (B:List SBranch):Prop where
 srt:B.Pairwise (fun a b=>zdu a.1 b.1<0)
 mem:∀t m,(t,m)∈B↔f t≠0∧m=sat (f t)
def insB (b:SBranch):List SBranch→List SBranch
 | []=>[b]
 | c::l=>if zdu b.1 c.1<0 then b::c::l else c::insB b l
def srtB (l:List SBranch):List SBranch:=l.foldr insB []
def zg3 (x r:List SBranch):Prop:=(x.map (·.1)).Nodup∧(∀b∈x,b.1.length≤1000)∧x.length≤2147483648∧r=srtB x
def zkh (x r:List SBranch):Prop:=(x.map (·.1)).Nodup∧(∀b∈x,b.1.length≤1000)∧x.length≤2147483648∧r=srtB x
def zfp (d:SDesc) (s:List SItem) (r:List SBranch):Prop:=ROk d∧DOk d∧d.length≤400∧d≠[]∧zd6 d s=true∧s.length≤400∧r.length≤2147483648∧∃h L,lv d h s=some L∧Can (fun t=>L.count t) r
def zjh (d:List SNode):Nat→Int→Bool
 | 0,_=>false
 | k+1,i=>match at? d i with
  | none=>false
  | some n=>if n.1=1 then true else if n.1=3 then decide (n.2.2.2.2.2.2=[]) else if n.1=4 then zjh d k n.2.1&&zjh d k n.2.2.1 else if n.1=5 then zjh d k n.2.1||zjh d k n.2.2.1 else if n.1=6 then true else if n.1=7 then decide (n.2.2.2.1=0) else false
structure CntOk (d:List SNode):Prop where
 ne:d≠[]
 len:d.length≤1000
 two:∀(i:Int) (n:SNode),at? d i=some n→n.1=4∨n.1=5→(0≤n.2.1∧n.2.1<i)∧(0≤n.2.2.1∧n.2.2.1<i)
def count_Has (d_:SDesc) (w_:List Int) (r_:Bool):Prop:=w_=[]∧CntOk d_∧r_=zjh d_ d_.length ((d_.length:Int)-1)
def zfl (x:Stwo_twice):Int:=if x.2.2=true then 1 else 0
def zp1 (x y:Stwo_twice):Int:=if zdu x.1 y.1≠0 then zdu x.1 y.1 else if zdu x.2.1 y.2.1≠0 then zdu x.2.1 y.2.1 else if zfl x<zfl y then -1 else if zfl y<zfl x then 1 else 0
def insT (x:Stwo_twice):List Stwo_twice→List Stwo_twice
 | []=>[x]
 | y::l=>if zp1 x y≤0 then x::y::l else y::insT x l
def srtT (L:List Stwo_twice):List Stwo_twice:=L.foldr insT []
def zec (x r:List Stwo_twice):Prop:=(∀b∈x,b.1.length≤1000∧b.2.1.length≤1000)∧x.length≤2147483648∧r=srtT x
section
variable {u : Bool} [Dr u]
section
variable {P : Program} {ops : Array Oper} {o : Oper} {L : Lst}
theorem t_mkmeth {β:Type} {qs:β→List Pd} {R:β→St→St→Value→Prop} {F:β→Prop} {f:FuncId} {cs:List Operand} {qc:List Pd} (hx:zp5 L cs qc) (hc:∀(args:Array Value) (w:World),(callFunc f args).run P w = .ok (.enter f args) w)
  (henc:∀q∈qc,q.Enc) (h:∀q,F q→Fn P f (qc++qs q) (R q)) (ho:o.op = .makeFunc (.func f) cs.toArray #[]) (hg:o.guard=none):T P ops o L (Pd.rep (En.fun P qs R) F):=
 T.pure hg fun M n s0 a s hL=>by
  refine ⟨.func (.func f) (cs.map a.eval).toArray #[], ?_,[.func (.func f) (cs.map a.eval).toArray #[]],rfl,.inr ⟨f,(cs.map a.eval).toArray,#[],rfl,hc,fun s1 hgl hf hs q hq vs hv=>?_⟩⟩
  ·unfold execOp;rw [ho];simp [Instr.makeFunc]
  ·have:=(h q hq).run s1 (cs.map a.eval++vs) hgl (zk1 (zna hf hs henc (hx.vals hL)) hv);simpa using this
end
end
end Go.Proofs.YtjdaaiodniicoaaGreatDoor.V
namespace Go.Proofs.YtjdaaiodniicoaaGreatDoor.V
open Go
set_option linter.unusedVariables false
section
variable {u : Bool} [Dr u]
class Ud (P:Program) (t:TypeId) (d:outParam TypeDesc):Prop where
 h:P.underlying t=some d
class Tq {α:outParam Type} (P:Program) (t:TypeId) (E:outParam (En α)):Prop where
 h:Ty P t E
class Ag {α:Type} (E:En α):Prop where
 h:E.agg=true
instance ag1 {α β:Type} {E:En α} {F:En β}:Ag (En.cat E F):=⟨rfl⟩
class Us (P:Program) (t:TypeId) (n:outParam Nat):Prop where
 h:(P.info? t).map (·.size)=some n
class Fd {α:Type} {β:outParam Type} (P:Program) (t:TypeId) (f:Nat) (E:En α) (a:α) (off:outParam Nat) (E':outParam (En β)) (y:outParam β):Prop where
 h:∃(fs:Array Field) (fd:Field),P.underlying t=some (.struct fs)∧fs[f]?=some fd∧Prt E off E' a y∧fd.offset=off∧Ty P fd.type E'
class Ev {α:Sort _} (a:α) (b:outParam α):Prop where
 h:a=b
instance evr {α:Sort _} {a:α}:Ev a a:=⟨rfl⟩
@[reducible] def lkr:Lst→Nat→Option Pd
 | [],_=>none
 | (d,q)::r,t=>match Nat.beq d t with
  | true=>some q
  | false=>lkr r t
theorem lkr_lk:∀{L:Lst} {t:Nat},lkr L t=lk L t
 | [],_=>rfl
 | (d,q)::r,t=>by
  rw [lk,lkr];cases Nat.beq d t
  ·exact lkr_lk
  ·rfl
class Lx (L:Lst) (t:Nat) (q:outParam Pd):Prop where
 h:lk L t=some q
instance lxi {L:Lst} {t:Nat} {q:Pd} [h:Ev (lkr L t) (some q)]:Lx L t q:=⟨lkr_lk ▸ h.h⟩
class Imp (c d:Prop):Prop where
 h:c→d
instance imp0 {c:Prop}:Imp c c:=⟨id⟩
instance imp2 {a b c:Prop} [h:Imp b c]:Imp (a∧b) c:=⟨fun x=>h.h x.2⟩
class Vw (c:Prop) (q:Pd) (q':outParam Pd):Prop where
 h:∀s v,c→q.p s v→q'.p s v
instance (priority:=low) vw0 {c:Prop} {q:Pd}:Vw c q q:=⟨fun _ _ _ h=>h⟩
instance vw1 {c d:Prop} {q:Pd} [i:Imp c d]:Vw c (Pd.when d q) q:=⟨fun _ _ hc h=>h.1 (i.h hc)⟩
class Ki (k:IntKind) (x:Int):Prop where
 h:InR k x
@[reducible] def inb:IntKind→Int→Bool
 | .i64,.ofNat n=>Nat.ble n 9223372036854775807
 | .u8,.ofNat n=>Nat.ble n 255
 | .u64,.ofNat n=>Nat.ble n 18446744073709551615
 | _,_=>false
instance kix {k:IntKind} {x:Int} [h:Ev (inb k x) true]:Ki k x:=⟨by
 have e:=h.h
 unfold inb at e
 split at e
 all_goals first | (have:=Nat.le_of_ble_eq_true e;simp [InR,IntKind.min,IntKind.max,IntKind.signed,IntKind.bits];omega) | cases e⟩
instance kin {x:Int} [h:Ev (inb .i64 x) true]:Ki .i64 (-x):=⟨by
 have e:=h.h
 unfold inb at e
 split at e
 all_goals first | (have:=Nat.le_of_ble_eq_true e;simp [InR,IntKind.min,IntKind.max,IntKind.signed,IntKind.bits];omega) | cases e | contradiction⟩
class Oc (c:Prop) (L:Lst) (x:Operand) (q:outParam Pd):Prop where
 h:c→Opn L x q
instance oct {c:Prop} {L:Lst} {t:Nat} {q q':Pd} [h:Lx L t q] [v:Vw c q q']:Oc c L (.tmp t) q':=⟨fun hc M n s0 a s hL=>v.h s _ hc (hL.get t h.h)⟩
instance oci {c:Prop} {L:Lst} {k:IntKind} {x:Int} [h:Ki k x]:Oc c L (.const (.int k x)) (Pd.rep (En.int k) x):=⟨fun _=>o_i h.h⟩
instance ocb {c:Prop} {L:Lst} {x:Bool}:Oc c L (.const (.bool x)) (Pd.rep En.bool x):=⟨fun _=>o_b⟩
class Or {α:outParam Type} (c:Prop) (L:Lst) (x:Operand) (E:outParam (En α)) (N:outParam Nat) (te:outParam TypeId) (og:outParam (Option Nat)) (xs:outParam (List α)):Prop where
 h:c→Opn L x (Pd.row E N te og xs)
instance or0 {α:Type} {E:En α} {N te:Nat} {og:Option Nat} {xs:List α} {c:Prop} {L:Lst} {x:Operand} [h:Oc c L x (Pd.row E N te og xs)]:Or c L x E N te og xs:=⟨h.h⟩
instance or1 {α:Type} {E:En α} {te:Nat} {v0:Value} {xs:List α} {c:Prop} {L:Lst} {x:Operand} [h:Oc c L x (Pd.prow E te v0 xs)]:Or c L x E 0 te v0.ownBlock xs:=⟨fun hc=>o_p (h.h hc)⟩
theorem op {L:Lst} {x:Operand} {q:Pd} [h:Oc True L x q]:Opn L x q:=h.h trivial
theorem opc {c:Prop} (hc:c) {L:Lst} {x:Operand} {q:Pd} [h:Oc c L x q]:Opn L x q:=h.h hc
class Oz (c:Prop) (L:Lst) (xs:List Operand) (qs:List Pd):Prop where
 h:c→zp5 L xs qs
instance oz0 {c:Prop} {L:Lst}:Oz c L [] []:=⟨fun _=>.nil⟩
instance oz1 {c:Prop} {L:Lst} {x:Operand} {xs:List Operand} {q:Pd} {qs:List Pd} [h:Oc c L x q] [k:Oz c L xs qs]:Oz c L (x::xs) (q::qs):=⟨fun hc=>.cons (h.h hc) (k.h hc)⟩
instance oz2 {α:Type} {E:En α} {c:Prop} {L:Lst} {xs:List Operand} {qs:List Pd} [k:Oz c L xs qs]:Oz c L (.const (.slice none 0 0)::xs) (Pd.rep (En.slice E) []::qs):=⟨fun hc=>.cons o_nilr (k.h hc)⟩
instance oz3 {α:Type} {E:En α} {c:Prop} {L:Lst} {xs:List Operand} {qs:List Pd} [k:Oz c L xs qs]:Oz c L (.const (.slice none 0 0)::xs) (Pd.rep (En.nilv E) []::qs):=⟨fun hc=>.cons o_nilv (k.h hc)⟩
class Ol {α:Type} (E:En α) (c:Prop) (L:Lst) (xs:List Operand) (es:outParam (List α)):Prop where
 h:c→OpL E L xs es
instance ol0 {α:Type} {E:En α} {c:Prop} {L:Lst}:Ol E c L [] []:=⟨fun _=>.nil⟩
instance ol1 {α:Type} {E:En α} {c:Prop} {L:Lst} {x:Operand} {xs:List Operand} {e:α} {es:List α} [h:Oc c L x (Pd.rep E e)] [k:Ol E c L xs es]:Ol E c L (x::xs) (e::es):=⟨fun hc=>.cons (h.h hc) (k.h hc)⟩
theorem opz {L:Lst} {xs:List Operand} {qs:List Pd} [h:Oz True L xs qs]:zp5 L xs qs:=h.h trivial
class Lp (parts:Array (Nat × Operand)) (xs:outParam (List Operand)) (n:Nat):Prop where
 h:parts=(xs.zipIdx.map fun (x,i)=>(i,x)).toArray∧n=xs.length
inductive Lq:Nat→List (Nat × Operand)→List Operand→Prop
 | nil {i:Nat}:Lq i [] []
 | cons {i:Nat} {x:Operand} {l:List (Nat × Operand)} {xs:List Operand} (h:Lq (i+1) l xs):Lq i ((i,x)::l) (x::xs)
theorem Lq.e {i:Nat} {l:List (Nat × Operand)} {xs:List Operand} (h:Lq i l xs):l=(xs.zipIdx i).map (fun (x,i)=>(i,x)):=by
 induction h with
 | nil=>rfl
 | cons _ ih=>rw [ih];rfl
class Lr (i:Nat) (l:List (Nat × Operand)) (xs:outParam (List Operand)) (n:outParam Nat):Prop where
 h:Lq i l xs∧n=xs.length
instance lr0 {i:Nat}:Lr i [] [] 0:=⟨.nil,rfl⟩
instance lr1 {i j n:Nat} {x:Operand} {l:List (Nat × Operand)} {xs:List Operand} [e:Ev (Nat.beq i j) true] [h:Lr (i+1) l xs n]:Lr i ((j,x)::l) (x::xs) (n+1):=⟨by rw [← Nat.eq_of_beq_eq_true e.h];exact .cons h.h.1,by rw [h.h.2];rfl⟩
instance lp0 {l:List (Nat × Operand)} {xs:List Operand} {n m:Nat} [h:Lr 0 l xs m] [e:Ev (Nat.beq n m) true]:Lp l.toArray xs n:=⟨by rw [h.h.1.e],by rw [Nat.eq_of_beq_eq_true e.h,h.h.2]⟩
theorem lp_lit {P:Program} {ops:Array Oper} {L:Lst} {α:Type} {E:En α} {t te:TypeId} {xs:List Operand} {es:List α} {n:Nat} {parts:Array (Nat × Operand)} {d:Option Nat} {ty:TypeId} {ps:String} {af:Array Edge} (hx:OpL E L xs es) (ht:P.underlying t=some (.slice te)) (hE:Ty P te E) (h:Lp parts xs n) (hn:n*E.sz≤16777216):T P ops ⟨d,.buildSlice t n parts,ty,ps,af,none⟩ L (Pd.rep (En.slice E) es):=zn1 hx ht hE h.h.2 h.h.1 hn rfl rfl
class Cj (a b:Prop) (c:outParam Prop):Prop where
 h:c→a∧b
instance (priority:=high) cj0 {a:Prop}:Cj True a a:=⟨fun h=>⟨trivial,h⟩⟩
instance (priority:=900) cj1 {a:Prop}:Cj a True a:=⟨fun h=>⟨h,trivial⟩⟩
instance (priority:=low) cj2 {a b:Prop}:Cj a b (a∧b):=⟨id⟩
class Gi (c r:Prop) (r':outParam Prop):Prop where
 h:r'→c→r
instance (priority:=high) gi0 {c:Prop}:Gi c True True:=⟨fun _ _=>trivial⟩
instance (priority:=low) gi1 {c r:Prop}:Gi c r (c→r):=⟨id⟩
class TO (c:Prop) (P:Program) (ops:Array Oper) (o:Oper) (L:Lst) (q:outParam Pd) (r:outParam Prop):Prop where
 h:r→c→T P ops o L q
class TH (p c:Prop) (P:Program) (ops:Array Oper) (o:Oper) (L:Lst) (q:outParam Pd):Prop where
 h:p→c→T P ops o L q
section
variable {c : Prop} {P : Program} {ops : Array Oper} {L : Lst} {d : Option Nat} {ty : TypeId} {ps : String} {af : Array Edge} {x y z : Operand} {t u' : TypeId} {k : IntKind} {a b : Int}
instance to1 {q:Pd} [i0:Oc c L x q]:TO c P ops ⟨d,.move x,ty,ps,af,none⟩ L (q) (True):=⟨fun hr hc=>zj (i0.h hc) rfl rfl⟩
instance to2 {q:Pd} [i0:Oc c L x q]:TO c P ops ⟨d,.assign x,ty,ps,af,none⟩ L (q) (True):=⟨fun hr hc=>zp (i0.h hc) rfl rfl⟩
instance to3 {α:Type} {E:En α} {v:α} [i0:Tq P t E] [i1:Oc c L y (Pd.ptr E v)]:TO c P ops ⟨d,.load t y,ty,ps,af,none⟩ L (Pd.rep E v) (True):=⟨fun hr hc=>zw i0.h (i1.h hc) rfl rfl⟩
instance to4 {α:Type} {E:En α} {v:α} {N off:Nat} {og:Option Nat} [i0:Tq P t E] [i1:Oc c L y (Pd.optr E N og off v)]:TO c P ops ⟨d,.load t y,ty,ps,af,none⟩ L (Pd.rep E v) (True):=⟨fun hr hc=>zcr i0.h (i1.h hc) rfl rfl⟩
instance to5 {α:Type} {E:En α} {v:α} {N g:Nat} [i0:Tq P t E] [i1:Oc c L y (Pd.box E N g v)]:TO c P ops ⟨d,.load t y,ty,ps,af,none⟩ L (Pd.rep E v) (True):=⟨fun hr hc=>zgo i0.h (i1.h hc) rfl rfl⟩
instance to6 {α β:Type} {E:En α} {E':En β} {v:α} {w:β} {f off:Nat}  [i0:Oc c L x (Pd.ptr E v)] [i1:Fd P t f E v off E' w]:TO c P ops ⟨d,.fieldAddr t x f,ty,ps,af,none⟩ L (Pd.ptr E' w) (True):=⟨fun hr hc=>let ⟨fs,fd,h1,h2,h3,h4,h5⟩:=i1.h;zdb (i0.h hc) h1 h2 h3 h4 h5 rfl rfl⟩
instance to7 {α β:Type} {E:En α} {E':En β} {v:α} {w:β} {f off:Nat} {N o':Nat} {og:Option Nat} [i0:Oc c L x (Pd.optr E N og o' v)] [i1:Fd P t f E v off E' w]:TO c P ops ⟨d,.fieldAddr t x f,ty,ps,af,none⟩ L (Pd.optr E' N og (o'+off) w) (True):=⟨fun hr hc=>let ⟨fs,fd,h1,h2,h3,h4,h5⟩:=i1.h;t_fao (i0.h hc) h1 h2 h3 h4 h5 rfl rfl⟩
instance to8 {α β:Type} {E:En α} {E':En β} {v:α} {w:β} {f off:Nat} {N g:Nat} [i0:Oc c L x (Pd.box E N g v)] [i1:Fd P t f E v off E' w]:TO c P ops ⟨d,.fieldAddr t x f,ty,ps,af,none⟩ L (Pd.optr E' N (some g) off w) (True):=⟨fun hr hc=>let ⟨fs,fd,h1,h2,h3,h4,h5⟩:=i1.h;zq5 (i0.h hc) h1 h2 h3 h4 h5 rfl rfl⟩
instance to9 {α β:Type} {E:En α} {E':En β} {v:α} {w:β} {f off:Nat}  [i0:Oc c L x (Pd.rep E v)] [i1:Fd P t f E v off E' w] [i2:Ag E]:TO c P ops ⟨d,.field t x f,ty,ps,af,none⟩ L (Pd.rep E' w) (True):=⟨fun hr hc=>let ⟨fs,fd,h1,h2,h3,h4,h5⟩:=i1.h;t_fv (i0.h hc) i2.h h1 h2 h3 h4 h5 rfl rfl⟩
instance to10 [i0:Oc c L x (Pd.rep (En.int k) a)] [i1:Oc c L y (Pd.rep (En.int k) b)]:TO c P ops ⟨d,.binOp .lss t x y u',ty,ps,af,none⟩ L (Pd.rep En.bool (decide (a<b))) (True):=⟨fun hr hc=>zi1 (i0.h hc) (i1.h hc) rfl rfl⟩
instance to11 [i0:Oc c L x (Pd.rep (En.int k) a)] [i1:Oc c L y (Pd.rep (En.int k) b)]:TO c P ops ⟨d,.binOp .leq t x y u',ty,ps,af,none⟩ L (Pd.rep En.bool (decide (a≤b))) (True):=⟨fun hr hc=>t_leq (i0.h hc) (i1.h hc) rfl rfl⟩
instance to12 [i0:Oc c L x (Pd.rep (En.int k) a)] [i1:Oc c L y (Pd.rep (En.int k) b)]:TO c P ops ⟨d,.binOp .gtr t x y u',ty,ps,af,none⟩ L (Pd.rep En.bool (decide (b<a))) (True):=⟨fun hr hc=>t_gtr (i0.h hc) (i1.h hc) rfl rfl⟩
instance to13 [i0:Oc c L x (Pd.rep (En.int k) a)] [i1:Oc c L y (Pd.rep (En.int k) b)]:TO c P ops ⟨d,.binOp .geq t x y u',ty,ps,af,none⟩ L (Pd.rep En.bool (decide (b≤a))) (True):=⟨fun hr hc=>t_geq (i0.h hc) (i1.h hc) rfl rfl⟩
instance to14 [i0:Oc c L x (Pd.rep (En.int k) a)] [i1:Oc c L y (Pd.rep (En.int k) b)]:TO c P ops ⟨d,.binOp .eql t x y u',ty,ps,af,none⟩ L (Pd.rep En.bool (a==b)) (True):=⟨fun hr hc=>zgp (i0.h hc) (i1.h hc) rfl rfl⟩
instance to15 [i0:Oc c L x (Pd.rep (En.int k) a)] [i1:Oc c L y (Pd.rep (En.int k) b)]:TO c P ops ⟨d,.binOp .neq t x y u',ty,ps,af,none⟩ L (Pd.rep En.bool (a != b)) (True):=⟨fun hr hc=>t_nei (i0.h hc) (i1.h hc) rfl rfl⟩
instance to16 [i0:Oc c L x (Pd.rep (En.int .i64) a)] [i1:Oc c L y (Pd.rep (En.int .i64) b)]:TO c P ops ⟨d,.binOp .add t x y u',ty,ps,af,none⟩ L (Pd.rep (En.int .i64) (a+b)) (InR .i64 (a+b)):=⟨fun hr hc=>zi6 (i0.h hc) (i1.h hc) hr rfl rfl⟩
instance to18 [i0:Oc c L x (Pd.rep (En.int .u64) a)] [i1:Oc c L y (Pd.rep (En.int .u64) b)]:TO c P ops ⟨d,.binOp .add t x y u',ty,ps,af,none⟩ L (Pd.rep (En.int .u64) (IntKind.wrap .u64 (a+b))) (True):=⟨fun hr hc=>t_addw (i0.h hc) (i1.h hc) rfl rfl⟩
instance to19 [i0:Oc c L x (Pd.rep (En.int .i64) a)] [i1:Oc c L y (Pd.rep (En.int .i64) b)]:TO c P ops ⟨d,.binOp .sub t x y u',ty,ps,af,none⟩ L (Pd.rep (En.int .i64) (a-b)) (InR .i64 (a-b)):=⟨fun hr hc=>zlw (i0.h hc) (i1.h hc) hr rfl rfl⟩
instance to22 [i0:Oc c L x (Pd.rep (En.int .i64) a)] [i1:Oc c L y (Pd.rep (En.int .i64) b)]:TO c P ops ⟨d,.binOp .mul t x y u',ty,ps,af,none⟩ L (Pd.rep (En.int .i64) (a*b)) (InR .i64 (a*b)):=⟨fun hr hc=>t_mul (i0.h hc) (i1.h hc) hr rfl rfl⟩
instance to24 [i0:Oc c L x (Pd.rep (En.int .u64) a)] [i1:Oc c L y (Pd.rep (En.int .u64) b)]:TO c P ops ⟨d,.binOp .mul t x y u',ty,ps,af,none⟩ L (Pd.rep (En.int .u64) (IntKind.wrap .u64 (a*b))) (True):=⟨fun hr hc=>t_mulw (i0.h hc) (i1.h hc) rfl rfl⟩
instance to26 {v:Bool} [i0:Oc c L x (Pd.rep En.bool v)]:TO c P ops ⟨d,.unOp .not t x,ty,ps,af,none⟩ L (Pd.rep En.bool (!v)) (True):=⟨fun hr hc=>t_not (i0.h hc) rfl rfl⟩
instance to29 {v w:Str} [i0:Oc c L x (Pd.rep En.str v)] [i1:Oc c L y (Pd.rep En.str w)]:TO c P ops ⟨d,.binOp .eql t x y u',ty,ps,af,none⟩ L (Pd.rep En.bool (v==w)) (True):=⟨fun hr hc=>t_eqv eqv_str (i0.h hc) (i1.h hc) rfl rfl⟩
instance to33 {xs:List Int} {te:TypeId} [i0:Oc c L y (Pd.rep (En.slice (En.int .u8)) xs)] [i1:Ud P t (.slice te)] [i2:Ud P te (.int .u8)] [i3:Ud P u' .string]:TO c P ops ⟨d,.convert t u' y,ty,ps,af,none⟩ L (Pd.rep En.str (strB xs)) (True):=⟨fun hr hc=>t_bstr (i0.h hc) i1.h i2.h i3.h rfl rfl⟩
instance to34 {v w:Bool} [i0:Oc c L x (Pd.rep En.bool v)] [i1:Oc (c∧v=true) L y (Pd.rep En.bool w)]:TO c P ops ⟨d,.pick x y (.const (.bool false)),ty,ps,af,none⟩ L (Pd.rep En.bool (v&&w)) (True):=⟨fun hr hc=>zpm (i0.h hc) (fun e=>i1.h ⟨hc,e⟩) rfl rfl⟩
instance to35 {v w:Bool} [i0:Oc c L x (Pd.rep En.bool v)] [i1:Oc (c∧v=false) L y (Pd.rep En.bool w)]:TO c P ops ⟨d,.pick x (.const (.bool true)) y,ty,ps,af,none⟩ L (Pd.rep En.bool (v||w)) (True):=⟨fun hr hc=>t_or (i0.h hc) (fun e=>i1.h ⟨hc,e⟩) rfl rfl⟩
instance to36 {α:Type} {E:En α} {xs:List α} {te:TypeId} [i0:Oc c L y (Pd.rep (En.slice E) xs)] [i1:Ud P t (.slice te)]:TO c P ops ⟨d,.call { callee:=.builtin .len,args:=#[y],argTypes:=#[t] },ty,ps,af,none⟩ L (Pd.rep (En.int .i64) xs.length) (True):=⟨fun hr hc=>zi2 (i0.h hc) i1.h rfl rfl⟩
instance to37 {α:Type} {E:En α} {xs:List α} {N te te':Nat} {og:Option Nat} [i0:Or c L y E N te og xs] [i1:Ud P t (.slice te')]:TO c P ops ⟨d,.call { callee:=.builtin .len,args:=#[y],argTypes:=#[t] },ty,ps,af,none⟩ L (Pd.rep (En.int .i64) xs.length) (True):=⟨fun hr hc=>t_leno (i0.h hc) i1.h rfl rfl⟩
instance to38 {v:Str} [i0:Oc c L y (Pd.rep En.str v)] [i1:Ud P t .string]:TO c P ops ⟨d,.call { callee:=.builtin .len,args:=#[y],argTypes:=#[t] },ty,ps,af,none⟩ L (Pd.rep (En.int .i64) v.length) (True):=⟨fun hr hc=>t_slen (i0.h hc) i1.h rfl rfl⟩
instance to39 {ats:Array TypeId} [i0:Oc c L x (Pd.rep (En.int k) a)] [i1:Oc c L y (Pd.rep (En.int k) b)]:TO c P ops ⟨d,.call { callee:=.builtin .max,args:=#[x,y],argTypes:=ats },ty,ps,af,none⟩ L (Pd.rep (En.int k) (max a b)) (True):=⟨fun hr hc=>t_max (i0.h hc) (i1.h hc) rfl rfl⟩
instance to40 {ats:Array TypeId} [i0:Oc c L x (Pd.rep (En.int k) a)] [i1:Oc c L y (Pd.rep (En.int k) b)]:TO c P ops ⟨d,.call { callee:=.builtin .min,args:=#[x,y],argTypes:=ats },ty,ps,af,none⟩ L (Pd.rep (En.int k) (min a b)) (True):=⟨fun hr hc=>t_min (i0.h hc) (i1.h hc) rfl rfl⟩
instance to41 {α:Type} {E:En α} {v:α} [i0:Oc c L y (Pd.rep E v)]:TO c P ops ⟨d,.box t y,ty,ps,af,none⟩ L (Pd.ptr E v) (True):=⟨fun hr hc=>zgd (i0.h hc) rfl rfl⟩
instance to42 {q r:Pd} [i0:Oc c L x (Pd.tup2 q r)]:TO c P ops ⟨d,.extract x 0,ty,ps,af,none⟩ L (q) (True):=⟨fun hr hc=>zqd (i0.h hc) rfl rfl⟩
instance to43 {q r:Pd} [i0:Oc c L x (Pd.tup2 q r)]:TO c P ops ⟨d,.extract x 1,ty,ps,af,none⟩ L (r) (True):=⟨fun hr hc=>zn2 (i0.h hc) rfl rfl⟩
instance to45 {α:Type} {E:En α} {te:TypeId} {xs:List Operand} {es:List α} {n:Nat} {parts:Array (Nat × Operand)}  [i0:Ud P t (.slice te)] [i1:Tq P te E] [i2:Lp parts xs n] [i3:Ol E c L xs es]:TO c P ops ⟨d,.buildSlice t n parts,ty,ps,af,none⟩ L (Pd.rep (En.slice E) es) (n*E.sz≤16777216):=⟨fun hr hc=>lp_lit (i3.h hc) i0.h i1.h i2 hr⟩
instance to46 [i0:Oc c L y (Pd.rep (En.int k) a)] [i1:Ud P t (.int k)] [i2:Ud P u' (.int .u8)]:TO c P ops ⟨d,.convert t u' y,ty,ps,af,none⟩ L (Pd.rep (En.int .u8) (a % 256)) (True):=⟨fun hr hc=>t_u8 (i0.h hc) i1.h i2.h rfl rfl⟩
instance to47 [i0:Oc c L y (Pd.rep (En.int .u8) a)] [i1:Ud P t (.int .u8)] [i2:Ud P u' (.int .i64)]:TO c P ops ⟨d,.convert t u' y,ty,ps,af,none⟩ L (Pd.rep (En.int .i64) a) (True):=⟨fun hr hc=>t_up (i0.h hc) (by decide) i1.h i2.h rfl rfl⟩
instance to51 [i0:Oc c L y (Pd.rep (En.int .i64) a)] [i1:Ud P t (.int .i64)] [i2:Ud P u' (.int .u64)]:TO c P ops ⟨d,.convert t u' y,ty,ps,af,none⟩ L (Pd.rep (En.int .u64) (IntKind.wrap .u64 a)) (True):=⟨fun hr hc=>t_cvt (i0.h hc) i1.h i2.h rfl rfl⟩
instance to52 [i0:Oc c L y (Pd.rep (En.int .u64) a)] [i1:Ud P t (.int .u64)] [i2:Ud P u' (.int .i64)]:TO c P ops ⟨d,.convert t u' y,ty,ps,af,none⟩ L (Pd.rep (En.int .i64) (IntKind.wrap .i64 a)) (True):=⟨fun hr hc=>t_cvt (i0.h hc) i1.h i2.h rfl rfl⟩
instance to53 [i0:Oc c L x (Pd.rep (En.int .u64) a)] [i1:Oc c L y (Pd.rep (En.int .u8) b)]:TO c P ops ⟨d,.binOp .shr t x y u',ty,ps,af,none⟩ L (Pd.rep (En.int .u64) (zqk a b)) (True):=⟨fun hr hc=>t_shr (i0.h hc) (i1.h hc) (by decide) rfl rfl⟩
instance to54 [i0:Oc c L x (Pd.rep (En.int .u64) a)] [i1:Oc c L y (Pd.rep (En.int .u8) b)]:TO c P ops ⟨d,.binOp .shl t x y u',ty,ps,af,none⟩ L (Pd.rep (En.int .u64) (shlI a b)) (True):=⟨fun hr hc=>t_shl (i0.h hc) (i1.h hc) (by decide) rfl rfl⟩
instance to55 [i0:Oc c L x (Pd.rep (En.int .u64) a)] [i1:Oc c L y (Pd.rep (En.int .u64) b)]:TO c P ops ⟨d,.binOp .shr t x y u',ty,ps,af,none⟩ L (Pd.rep (En.int .u64) (zqk a b)) (True):=⟨fun hr hc=>t_shr (i0.h hc) (i1.h hc) (by decide) rfl rfl⟩
instance to57 [i0:Oc c L x (Pd.rep (En.int .u64) a)] [i1:Oc c L y (Pd.rep (En.int .u64) b)]:TO c P ops ⟨d,.binOp .and t x y u',ty,ps,af,none⟩ L (Pd.rep (En.int .u64) (andI a b)) (True):=⟨fun hr hc=>t_andb (i0.h hc) (i1.h hc) rfl rfl⟩
instance to58 [i0:Oc c L x (Pd.rep (En.int .u64) a)] [i1:Oc c L y (Pd.rep (En.int .u64) b)]:TO c P ops ⟨d,.binOp .or t x y u',ty,ps,af,none⟩ L (Pd.rep (En.int .u64) (orI a b)) (True):=⟨fun hr hc=>t_orb (i0.h hc) (i1.h hc) rfl rfl⟩
instance to59 {α:Type} {E:En α} {xs:List α} {e:α} {te:TypeId} [i0:Oc c L x (Pd.rep (En.slice E) xs)] [i1:Oc c L y (Pd.rep (En.int k) a)] [i2:Ud P t (.slice te)] [i3:Tq P te E]:TH (at? xs a=some e) c P ops ⟨d,.indexAddr t x y,ty,ps,af,none⟩ L (Pd.ptr E e):=⟨fun hr hc=>zkb (i0.h hc) (i1.h hc) hr i2.h i3.h rfl rfl⟩
instance to60 {α:Type} {E:En α} {xs:List α} {e:α} {N te te':Nat} {og:Option Nat} [i0:Or c L x E N te' og xs] [i1:Oc c L y (Pd.rep (En.int k) a)] [i2:Ud P t (.slice te)] [i3:Tq P te E]:TH (at? xs a=some e) c P ops ⟨d,.indexAddr t x y,ty,ps,af,none⟩ L (Pd.optr E N og (a.toNat*E.sz) e):=⟨fun hr hc=>zea (i0.h hc) (i1.h hc) hr i2.h i3.h rfl rfl⟩
instance to61 {v:Str} {e:Int} [i0:Oc c L x (Pd.rep En.str v)] [i1:Oc c L y (Pd.rep (En.int k) a)] [i2:Ud P t .string]:TH (zd9 v a=some e) c P ops ⟨d,.index t x y,ty,ps,af,none⟩ L (Pd.rep (En.int .u8) e):=⟨fun hr hc=>t_sidx (i0.h hc) (i1.h hc) hr i2.h rfl rfl⟩
instance to62 {α:Type} {E:En α} {xs:List α} {te:TypeId}  [i0:Oc c L y (Pd.rep (En.slice E) xs)] [i1:Oc c L z (Pd.rep (En.int k) a)] [i2:Ud P t (.slice te)] [i3:Tq P te E]:TO c P ops ⟨d,.slice t y (some z) none none,ty,ps,af,none⟩ L (Pd.rep (En.slice E) (xs.drop a.toNat)) (0≤a∧a≤(xs.length:Int)):=⟨fun hr hc=>t_from (i0.h hc) (i1.h hc) hr i2.h i3.h rfl rfl⟩
instance to63 {α:Type} {E:En α} {xs:List α} {te:TypeId}  [i0:Oc c L y (Pd.rep (En.slice E) xs)] [i1:Oc c L z (Pd.rep (En.int k) a)] [i2:Ud P t (.slice te)] [i3:Tq P te E]:TO c P ops ⟨d,.slice t y none (some z) none,ty,ps,af,none⟩ L (Pd.rep (En.slice E) (xs.take a.toNat)) (0≤a∧a≤(xs.length:Int)):=⟨fun hr hc=>t_upto (i0.h hc) (i1.h hc) hr i2.h i3.h rfl rfl⟩
instance to64 {α:Type} {E:En α} {xs:List α} {te:TypeId} {k2:IntKind} [i0:Oc c L y (Pd.rep (En.slice E) xs)] [i1:Oc c L z (Pd.rep (En.int k2) b)] [i2:Oc c L x (Pd.rep (En.int k) a)] [i3:Ud P t (.slice te)] [i4:Tq P te E]:TO c P ops ⟨d,.slice t y (some z) (some x) none,ty,ps,af,none⟩ L (Pd.rep (En.slice E) ((xs.take a.toNat).drop b.toNat)) (0≤b∧b≤a∧a≤(xs.length:Int)):=⟨fun hr hc=>t_part (i0.h hc) (i1.h hc) (i2.h hc) hr i3.h i4.h rfl rfl⟩
instance to65 [i0:Oc c L x (Pd.rep (En.int .i64) a)] [i1:Oc c L y (Pd.rep (En.int .i64) b)]:TO c P ops ⟨d,.binOp .quo t x y u',ty,ps,af,none⟩ L (Pd.rep (En.int .i64) (a / b)) (0≤a∧0<b):=⟨fun hr hc=>t_quo (i0.h hc) (i1.h hc) hr.1 hr.2 rfl rfl⟩
instance to66 [i0:Oc c L x (Pd.rep (En.int .u8) a)] [i1:Oc c L y (Pd.rep (En.int .u8) b)]:TO c P ops ⟨d,.binOp .quo t x y u',ty,ps,af,none⟩ L (Pd.rep (En.int .u8) (a / b)) (0<b):=⟨fun hr hc=>t_quou (i0.h hc) (i1.h hc) (by decide) hr rfl rfl⟩
instance to67 [i0:Oc c L x (Pd.rep (En.int .u64) a)] [i1:Oc c L y (Pd.rep (En.int .u64) b)]:TO c P ops ⟨d,.binOp .quo t x y u',ty,ps,af,none⟩ L (Pd.rep (En.int .u64) (a / b)) (0<b):=⟨fun hr hc=>t_quou (i0.h hc) (i1.h hc) (by decide) hr rfl rfl⟩
instance to68 [i0:Oc c L x (Pd.rep (En.int .i64) a)] [i1:Oc c L y (Pd.rep (En.int .i64) b)]:TO c P ops ⟨d,.binOp .rem t x y u',ty,ps,af,none⟩ L (Pd.rep (En.int .i64) (a % b)) (0≤a∧0<b):=⟨fun hr hc=>t_rem (i0.h hc) (i1.h hc) hr.1 hr.2 rfl rfl⟩
instance to69 [i0:Oc c L x (Pd.rep (En.int .u8) a)] [i1:Oc c L y (Pd.rep (En.int .u8) b)]:TO c P ops ⟨d,.binOp .rem t x y u',ty,ps,af,none⟩ L (Pd.rep (En.int .u8) (a % b)) (0<b):=⟨fun hr hc=>t_remu (i0.h hc) (i1.h hc) (by decide) hr rfl rfl⟩
instance to70 [i0:Oc c L x (Pd.rep (En.int .u64) a)] [i1:Oc c L y (Pd.rep (En.int .u64) b)]:TO c P ops ⟨d,.binOp .rem t x y u',ty,ps,af,none⟩ L (Pd.rep (En.int .u64) (a % b)) (0<b):=⟨fun hr hc=>t_remu (i0.h hc) (i1.h hc) (by decide) hr rfl rfl⟩
instance to71 {w:Cl} {te:TypeId}  [i0:Oc c L x (Pd.ptr En.cls w)] [i1:Oc c L y (Pd.rep (En.int k) a)] [i2:Ud P t (.array 4 te)] [i3:Us P te 1]:TO c P ops ⟨d,.indexAddr t x y,ty,ps,af,none⟩ L (Pd.ptr (En.int .u64) (w.w a)) (0≤a∧a<4):=⟨fun hr hc=>t_idxc (i0.h hc) (i1.h hc) hr i2.h i3.h rfl rfl⟩
instance to72 {w:Cl} {te:TypeId} {N g:Nat} [i0:Oc c L x (Pd.box En.cls N g w)] [i1:Oc c L y (Pd.rep (En.int k) a)] [i2:Ud P t (.array 4 te)] [i3:Us P te 1]:TO c P ops ⟨d,.indexAddr t x y,ty,ps,af,none⟩ L (Pd.optr (En.int .u64) N (some g) a.toNat (w.w a)) (0≤a∧a<4):=⟨fun hr hc=>t_idxcb (i0.h hc) (i1.h hc) hr i2.h i3.h rfl rfl⟩
instance toc {f:FuncId} {xs:List Operand} {qs:List Pd} {q:Pd} {ats:Array TypeId} [i:Oz c L xs qs]:TH (Fn P f qs (Rq q)) c P ops ⟨d,.call { callee:=.value (.func f),args:=xs.toArray,argTypes:=ats },ty,ps,af,none⟩ L q:=⟨fun hf hc=>zdl hf (i.h hc) rfl rfl⟩
class Gd (l:List Oper) (j:Nat) (d:outParam Nat):Prop where
 h:(l[j]?).bind (·.dst)=some d
instance gd0 {l:List Oper} {d:Nat} {op:Op} {g:Option (Nat × Bool)}:Gd (⟨some d,op,ty,ps,af,g⟩::l) 0 d:=⟨rfl⟩
instance gd1 {l:List Oper} {o:Oper} {j d:Nat} [h:Gd l j d]:Gd (o::l) (j+1) d:=⟨by simpa using h.h⟩
theorem Gd.arr {l:List Oper} {j d:Nat} (h:Gd l j d):((l.toArray)[j]?).bind (·.dst)=some d:=by simpa using h.h
section
variable {l : List Oper} {j e : Nat} {o : Op} {want v : Bool} {q : Pd} {c0 r r' p : Prop} [g : Gd l j e]
include g
instance tg1 [k:Lx L e (Pd.rep En.bool v)] [i:TO (v=want) P l.toArray ⟨d,o,ty,ps,af,none⟩ L q r] [z:Gi (v=want) r r']:TO True P l.toArray ⟨d,o,ty,ps,af,some (j,want)⟩ L (Pd.when (v=want) q) r':=⟨fun hr _=>zfk rfl g.arr k.h fun hc=>i.h (z.h hr hc) hc⟩
instance tg2 [k:Lx L e (Pd.when c0 (Pd.rep En.bool v))] [i:TO (c0∧v=want) P l.toArray ⟨d,o,ty,ps,af,none⟩ L q r] [z:Gi (c0∧v=want) r r']:TO True P l.toArray ⟨d,o,ty,ps,af,some (j,want)⟩ L (Pd.when (c0∧v=want) q) r':=⟨fun hr _=>t_g rfl g.arr k.h fun hc=>i.h (z.h hr hc) hc⟩
instance th1 [k:Lx L e (Pd.rep En.bool v)] [i:TH p (v=want) P l.toArray ⟨d,o,ty,ps,af,none⟩ L q]:TH (v=want→p) True P l.toArray ⟨d,o,ty,ps,af,some (j,want)⟩ L (Pd.when (v=want) q):=⟨fun hr _=>zfk rfl g.arr k.h fun hc=>i.h (hr hc) hc⟩
instance th2 [k:Lx L e (Pd.when c0 (Pd.rep En.bool v))] [i:TH p (c0∧v=want) P l.toArray ⟨d,o,ty,ps,af,none⟩ L q]:TH (c0∧v=want→p) True P l.toArray ⟨d,o,ty,ps,af,some (j,want)⟩ L (Pd.when (c0∧v=want) q):=⟨fun hr _=>t_g rfl g.arr k.h fun hc=>i.h (hr hc) hc⟩
end
end
theorem rr {r:Prop} (h:r:=by first | exact trivial | assumption | exact Dis.symm (by assumption) | exact And.intro rr rr | exact fun _=>rr | exact Dis.none | exact Dis.symm Dis.none | decide):r:=h
class Sb (q:Pd):Prop where
 h:∀b,¬ q.own b
instance sb_rep {α:Type} {E:En α} {x:α}:Sb (Pd.rep E x):=⟨fun _ h=>h⟩
instance sb_ptr {α:Type} {E:En α} {x:α}:Sb (Pd.ptr E x):=⟨fun _ h=>h⟩
instance sb_any:Sb Pd.any:=⟨fun _ h=>h⟩
instance sb_nilq {α:Type} {xs:List α}:Sb (Pd.nilq xs):=⟨fun _ h=>h⟩
instance sb_row {α:Type} {E:En α} {N te:Nat} {xs:List α}:Sb (Pd.row E N te none xs):=⟨fun b h=>by cases h⟩
instance sb_when {c:Prop} {q:Pd} [h:Sb q]:Sb (Pd.when c q):=⟨h.h⟩
instance sb_tup {q r:Pd} [h:Sb q] [k:Sb r]:Sb (Pd.tup2 q r):=⟨fun b e=>e.elim (h.h b) (k.h b)⟩
class Ob (q:Pd) (o:outParam (Option Nat)):Prop where
 h:∀b,q.own b→o=some b
section
variable {α : Type} {E : En α} {N te g i : Nat} {og : Option Nat} {x : α} {xs : List α} {v0 : Value}
instance ob_row:Ob (Pd.row E N te og xs) og:=⟨fun _ h=>h⟩
instance ob_box:Ob (Pd.box E N g x) (some g):=⟨fun _ h=>congrArg some (Eq.symm h)⟩
instance ob_optr:Ob (Pd.optr E N og i x) og:=⟨fun _ h=>h⟩
instance ob_map {κ ν:Type} [DecidableEq κ] {K:En κ} {kv:κ→Value} {F:En ν} {ys:List (κ × ν)}:Ob (Pd.map K kv F N og ys) og:=⟨fun _ h=>h⟩
end
class Ka (o:Option Nat) (L:Lst) (L':outParam Lst) (r:outParam Prop):Prop where
 h:r→Kp (fun b=>o=some b) L L'
section
variable {o o' : Option Nat} {L L' : Lst} {r r' : Prop} {t : Nat} {q : Pd}
instance ka0:Ka o [] [] True:=⟨fun _=>.a0⟩
instance (priority:=1100) ka1 [s:Sb q] [k:Ka o L L' r]:Ka o ((t,q)::L) ((t,q)::L') r:=⟨fun hr=>.ak (fun b hb=>(s.h b hb).elim) (k.h hr)⟩
instance (priority:=1050) ka2 [s:Ob q o] [k:Ka o L L' r]:Ka o ((t,q)::L) ((t,Pd.any)::L') r:=⟨fun hr=>.ad (k.h hr)⟩
instance ka3 [s:Ob q o'] [k:Ka o L L' r] [z:Cj (Dis o' o) r r']:Ka o ((t,q)::L) ((t,q)::L') r':=⟨fun hr=>.ak (fun b hb e=>(z.h hr).1 b (s.h b hb) e) (k.h (z.h hr).2)⟩
instance (priority:=low) ka4 [k:Ka o L L' r]:Ka o ((t,q)::L) ((t,Pd.any)::L') r:=⟨fun hr=>.ad (k.h hr)⟩
theorem ka [i:Ka o L L' r] (hr:r:=by exact rr):Kp (fun b=>o=some b) L L':=i.h hr
class Kd (o:Option Nat) (L:Lst) (L':outParam Lst):Prop where
 h:Kp (fun _=>False) L L'
instance kd0:Kd o [] []:=⟨.a0⟩
instance (priority:=1050) kd1 [s:Ob q o] [k:Kd o L L']:Kd o ((t,q)::L) ((t,Pd.any)::L'):=⟨.ad k.h⟩
instance kd2 [k:Kd o L L']:Kd o ((t,q)::L) ((t,q)::L'):=⟨.ak (fun _ _ h=>h) k.h⟩
theorem Has.dr {M:Nat→Prop} {n:Nat} {s0:St} {a:Act} {s:St} (h:Has M n s0 a s L) (o:Option Nat) [k:Kd o L L']:Has M n s0 a s L':=h.keep k.h
class Ks (o:Option Nat) (q q':Pd) (L:Lst) (L':outParam Lst) (r:outParam Prop):Prop where
 h:r→Kw (fun b=>o=some b) L q q' L'
variable {p p' : Pd}
instance ks0:Ks o p p' [] [] True:=⟨fun _=>.a0⟩
instance (priority:=1200) ks5 [k:Ks o p p' L L' r]:Ks o p p' ((t,p)::L) ((t,p')::L') r:=⟨fun hr=>.aw (k.h hr)⟩
instance (priority:=1100) ks1 [s:Sb q] [k:Ks o p p' L L' r]:Ks o p p' ((t,q)::L) ((t,q)::L') r:=⟨fun hr=>.ak (fun b hb=>(s.h b hb).elim) (k.h hr)⟩
instance (priority:=1050) ks2 [s:Ob q o] [k:Ks o p p' L L' r]:Ks o p p' ((t,q)::L) ((t,Pd.any)::L') r:=⟨fun hr=>.ad (k.h hr)⟩
instance ks3 [s:Ob q o'] [k:Ks o p p' L L' r] [z:Cj (Dis o' o) r r']:Ks o p p' ((t,q)::L) ((t,q)::L') r':=⟨fun hr=>.ak (fun b hb e=>(z.h hr).1 b (s.h b hb) e) (k.h (z.h hr).2)⟩
instance (priority:=low) ks4 [k:Ks o p p' L L' r]:Ks o p p' ((t,q)::L) ((t,Pd.any)::L') r:=⟨fun hr=>.ad (k.h hr)⟩
theorem kw [i:Ks o p p' L L' r] (hr:r:=by exact rr):Kw (fun b=>o=some b) L p p' L':=i.h hr
end
section
variable {P : Program} {ops : Array Oper} {L L' : Lst} {Q : Exit → Act → World → Prop} {rest : List Oper} {M : Nat → Prop} {n : Nat} {s0 : St} {a : Act} {s : St}
theorem Has.kk (h:Has M n s0 a s L) (hk:Kp (fun _=>False) L L':=by repeat (first | refine .cons rfl (fun _ _ h=>h) ?_ | exact .nil)):Has M n s0 a s L':=h.keep hk
inductive TSq (P:Program) (ops:Array Oper) (n:Nat):List Oper→List Oper→Lst→Lst→Prop
 | nil {l:List Oper} {L:Lst}:TSq P ops n l l L L
 | cons {o:Oper} {l l':List Oper} {L L':Lst} {q:Pd} {d:Nat} (h:T P ops o L q) (hd:o.dst=some d) (hn:Nat.blt d n=true) (h2:TSq P ops n l l' ((d,q)::L) L'):TSq P ops n (o::l) l' L L'
theorem TSq.go {l l':List Oper} (h:TSq P ops n l l' L L'):∀{a s},Has M n s0 a s L→(∀a s,Has M n s0 a s L'→wpList P ops Q l' a s.w)→wpList P ops Q l a s.w:=by
 induction h with
 | nil=>intro a s h k;exact k a s h
 | cons h hd hn _ ih=>intro a s hL k;exact st _ h hd hn hL fun a s _ hL=>ih hL k
class TL (P:Program) (ops:Array Oper) (n m:Nat) (p:Prop) (l:List Oper) (L:Lst) (l':outParam (List Oper)) (L':outParam Lst) (r:outParam Prop):Prop where
 h:p→r→TSq P ops n l l' L L'
section
variable {o : Op} {l l' : List Oper} {q : Pd} {d m : Nat} {r1 r2 r p p1 : Prop} {ty : TypeId} {ps : String} {af : Array Edge} {g : Option (Nat × Bool)}
instance tl0:TL P ops n 0 True l L l L True:=⟨fun _ _=>.nil⟩
instance tl1 [i:TO True P ops ⟨some d,o,ty,ps,af,g⟩ L q r1] [e:Ev (Nat.ble (d+1) n) true] [k:TL P ops n m p l ((d,q)::L) l' L' r2] [z:Cj r1 r2 r]:TL P ops n (m+1) p (⟨some d,o,ty,ps,af,g⟩::l) L l' L' r:=⟨fun hp hr=>.cons (i.h (z.h hr).1 trivial) rfl e.h (k.h hp (z.h hr).2)⟩
instance tl2 [i:TH p1 True P ops ⟨some d,o,ty,ps,af,g⟩ L q] [e:Ev (Nat.ble (d+1) n) true] [k:TL P ops n m p l ((d,q)::L) l' L' r]:TL P ops n (m+1) (p1∧p) (⟨some d,o,ty,ps,af,g⟩::l) L l' L' r:=⟨fun hp hr=>.cons (i.h hp.1 trivial) rfl e.h (k.h hp.2 hr)⟩
instance (priority:=high) tl3 {α:Type} {E:En α} {x y:α} [i:TO True P ops ⟨some d,o,ty,ps,af,g⟩ L (Pd.rep E y) r1] [e:Ev (Nat.ble (d+1) n) true] [k:TL P ops n m p l ((d,Pd.rep E x)::L) l' L' r2] [z:Cj r1 r2 r]:TL P ops n (m+1) (x=y∧p) (⟨some d,o,ty,ps,af,g⟩::l) L l' L' r:=⟨fun hp hr=>.cons (by rw [hp.1];exact i.h (z.h hr).1 trivial) rfl e.h (k.h hp.2 (z.h hr).2)⟩
instance (priority:=high) tl4 {α:Type} {E:En α} {x y:α} {c:Prop} [i:TO True P ops ⟨some d,o,ty,ps,af,g⟩ L (Pd.when c (Pd.rep E y)) r1] [e:Ev (Nat.ble (d+1) n) true] [k:TL P ops n m p l ((d,Pd.when c (Pd.rep E x))::L) l' L' r2] [z:Cj r1 r2 r]:TL P ops n (m+1) (x=y∧p) (⟨some d,o,ty,ps,af,g⟩::l) L l' L' r:=⟨fun hp hr=>.cons (by rw [hp.1];exact i.h (z.h hr).1 trivial) rfl e.h (k.h hp.2 (z.h hr).2)⟩
end
theorem sl {l l':List Oper} {r p:Prop} (m:Nat) (hp:p) (hL:Has M n s0 a s L) (k:∀a s,Has M n s0 a s L'→wpList P ops Q l' a s.w) [i:TL P ops n m p l L l' L' r] (hr:r:=by exact rr):wpList P ops Q l a s.w:=(i.h hp hr).go hL k
theorem sA {l l':List Oper} {r:Prop} (m:Nat) (hL:Has M n s0 a s L) (k:∀a s, Has M n s0 a s L'→wpList P ops Q l' a s.w) [i:TL P ops n m True l L l' L' r] (hr:r := by exact rr):wpList P ops Q l a s.w := sl m trivial hL k hr
theorem sv {o:Oper} {q:Pd} {d:Nat} (h:T P ops o L q) (hL:Has M n s0 a s L) (k:∀a' s',Has M n s0 a' s' ((d,q)::L)→wpList P ops Q rest a' s'.w) (hd:o.dst=some d:=by rfl) (hn:Nat.blt d n=true:=by rfl):wpList P ops Q (o::rest) a s.w:=st d h hd hn hL fun a s _ h=>k a s h
theorem sno {α:Type} (E:En α) (te:Nat) {d:Nat} {o:Oper} (hL:Has M n s0 a s L) (k:∀a' s',Has M n s0 a' s' ((d,Pd.row E s0.w.heap.size te none ([]:List α))::L)→wpList P ops Q rest a' s'.w) (ho:o.op = .move (.const (.slice none 0 0))∨o.op = .assign (.const (.slice none 0 0)):=by first | exact .inr rfl | exact .inl rfl) (hg:o.guard=none:=by rfl) (hd:o.dst=some d:=by rfl) (hn:Nat.blt d n=true:=by rfl):wpList P ops Q (o::rest) a s.w:=sv (ho.elim (fun h=>zj o_nil h hg) fun h=>zp o_nil h hg) hL k hd hn
theorem pp {a b:Prop} (h:a) (k:b):a∧b:=⟨h,k⟩
theorem p1 {a:Prop} (h:a):a∧True := ⟨h, trivial⟩
variable {b : Code} {id : Nat} {l : List Oper}
theorem rs (h:wpList P l.toArray (Exit.then (b.wp P Q) Q) l a s.w):(Code.seq (Code.region id l.toArray false) b).wp P Q a s.w:=wp_seq (rg h)
theorem es (h:b.wp P Q a s.w):wpList P ops (Exit.then (b.wp P Q) Q) [] a s.w:=h
theorem ra {r p:Prop} (m:Nat) (hp:p) (hL:Has M n s0 a s L) (k:∀a s,Has M n s0 a s L'→b.wp P Q a s.w) [i:TL P l.toArray n m p l L [] L' r] (hr:r:=by exact rr):(Code.seq (Code.region id l.toArray false) b).wp P Q a s.w:=rs ((i.h hp hr).go hL fun a s h=>es (k a s h))
theorem rA (m:Nat) (hL:Has M n s0 a s L) (k:∀a s, Has M n s0 a s L'→b.wp P Q a s.w) {r:Prop} [i:TL P l.toArray n m True l L [] L' r] (hr:r := by exact rr):(Code.seq (Code.region id l.toArray false) b).wp P Q a s.w := ra m trivial hL k hr
theorem sB {α:Type} {E:En α} {x0 x1:α} {g:Nat} {y:Operand} {t:TypeId} {o:Oper} (c:Nat) (hL:Has M n s0 a s L) (k:∀s', Has M n s0 a s' ((c, Pd.box E s0.w.heap.size g x1)::L')→wpList P ops Q rest a s'.w) (ho:o.op = .store t (.tmp c) y := by rfl) (hc:lk L c=some (Pd.box E s0.w.heap.size g x0) := by rfl) [hy:Oc True L y (Pd.rep E x1)] [ht:Tq P t E] (hg:o.guard=none := by rfl) (hd:o.dst=none := by rfl) (hk:Kp (fun b => some g=some b) L L' := by exact ka):wpList P ops Q (o::rest) a s.w := zgs c hL hc (hy.h trivial) ht.h ho hg hd hk k
@[reducible] def bnd (e:Edge):Bool:=match e.ground with
 | .textOnly _=>false
 | .gcOnly _=>false
 | _=>true
theorem bnd_eq (e:Edge):Region.binds .any e=bnd e:=by
 unfold Region.binds bnd;cases e.ground <;> rfl
@[reducible] def nthR:Lst→Nat→Option (Nat × Pd)
 | [],_=>none
 | x::_,0=>some x
 | _::r,k+1=>nthR r k
@[reducible] def depA (i:Nat) (A L:Lst):List Edge→Lst
 | []=>L
 | e::r=>match bnd e,nthR A (Nat.sub (Nat.sub i 1) e.on) with
  | true,some x=>x::depA i A L r
  | _,_=>depA i A L r
inductive AA (P:Program) (ops:Array Oper) (L:Lst):Nat→Lst→List Oper→List Pd→Lst→Prop
 | nil {i:Nat} {A:Lst} {l:List Oper}:AA P ops L i A l [] A
 | cons {i:Nat} {A A':Lst} {o:Oper} {l:List Oper} {q:Pd} {qs:List Pd} {d:Nat} (h:T P ops o (depA i A L o.after.toList) q) (hd:o.dst=some d) (h2:AA P ops L (i+1) ((d,q)::A) l qs A'):AA P ops L i A (o::l) (q::qs) A'
theorem nthR_newL {ops:Array Oper} {qs:List Pd} {L:Lst}:∀{i:Nat},(∀j,j<i→∃d q,(ops[j]?).bind (·.dst)=some d∧qs[j]?=some q)→∀j d q,j<i→(ops[j]?).bind (·.dst)=some d→qs[j]?=some q→nthR (zmp ops qs i L) (Nat.sub (Nat.sub i 1) j)=some (d,q)
 | 0,_,j,d,q,hj,_,_=>by omega
 | i+1,hall,j,d,q,hj,hd,hq=>by
  obtain ⟨d',q',h1,h2⟩:=hall i (by omega);unfold zmp;rw [h1,h2]
  by_cases hji:j=i
  ·subst hji;rw [h1] at hd;rw [h2] at hq;cases hd;cases hq;have e:Nat.sub (Nat.sub (j+1) 1) j=0:=by show j+1-1-j=0;omega
   rw [e]
  ·have e:Nat.sub (Nat.sub (i+1) 1) j=Nat.sub (Nat.sub i 1) j+1:=by show i+1-1-j=i-1-j+1;omega
   rw [e];exact nthR_newL (fun j hj=>hall j (by omega)) j d q (by omega) hd hq
theorem depA_eq {ops:Array Oper} {qs:List Pd} {L:Lst} {i:Nat} (hall:∀j,j<i→∃d q,(ops[j]?).bind (·.dst)=some d∧qs[j]?=some q):∀es:List Edge,(∀e∈es,Region.binds .any e=true→e.on<i)→depA i (zmp ops qs i L) L es=zh3 ops qs es L
 | [],_=>rfl
 | e::r,h=>by
  have ih:=depA_eq (L:=L) hall r fun e he=>h e (by simp [he]);unfold depA zh3;cases hb:Region.binds .any e
  ·rw [bnd_eq] at hb;rw [hb];simp only;exact ih
  ·have hlt:=h e (by simp) hb;obtain ⟨d,q,h1,h2⟩:=hall e.on hlt;rw [bnd_eq] at hb;rw [hb,nthR_newL hall e.on d q hlt h1 h2,h1,h2];simp only;rw [ih]
theorem AA.all {l0:List Oper} {n m:Nat} (hok:zd0 l0.toArray m n (L.map (·.1)) []=true):∀{l:List Oper} {i:Nat} {A A':Lst} {qs:List Pd},AA P l0.toArray L i A l qs A'→∀(pre:List Oper) (qp:List Pd),l0=pre++l→pre.length=i→qp.length=i→(∀j,j<i→∃d q,(l0[j]?).bind (·.dst)=some d∧qp[j]?=some q)→A=zmp l0.toArray (qp++qs) i L →
  zbe P l0.toArray (qp++qs) L l qs∧A'=zmp l0.toArray (qp++qs) (i+qs.length) L:=by
 intro l i A A' qs h
 induction h with
 | nil=>intro pre qp h1 h2 h3 h4 h5;exact ⟨zbe.nil,by simpa using h5⟩
 | cons h hd h2 ih=>
  rename_i i A A' o l q qs d
  intro pre qp h1 h2 h3 h4 h5;have e1:l0[i]?=some o:=by rw [h1,List.getElem?_append_right (by omega),show i-pre.length=0 by omega];rfl
  have hall:∀j,j<i→∃d q',((l0.toArray)[j]?).bind (·.dst)=some d∧(qp++q::qs)[j]?=some q':=fun j hj=>by
   obtain ⟨d,q',k1,k2⟩:=h4 j hj;exact ⟨d,q',by simpa using k1,by rw [List.getElem?_append_left (by omega)];exact k2⟩
  have hdep:∀e∈o.after.toList,Region.binds .any e=true→e.on<i:=by
   unfold zd0 at hok;rw [Bool.and_eq_true,List.all_eq_true] at hok;have hil:=(List.getElem?_eq_some_iff.1 e1).1;have:=List.all_eq_true.1 hok.2 i (by simpa using hil);rw [show (l0.toArray)[i]?=some o by simpa using e1] at this;simp only [Bool.and_eq_true,List.all_eq_true] at this;intro e he hb;have:=this.1 e he;simp only [hb,Bool.not_true,Bool.false_or] at this;exact Nat.le_of_ble_eq_true this
  have e2:=ih (pre++[o]) (qp++[q]) (by rw [h1,List.append_assoc];rfl) (by simp [h2]) (by simp [h3]) (fun j hj=>by
   by_cases hji:j=i
   ·subst hji;exact ⟨d,q,by rw [e1];exact hd,by rw [List.getElem?_append_right (by omega),show j-qp.length=0 by omega];rfl⟩
   ·obtain ⟨d,q',k1,k2⟩:=h4 j (by omega);exact ⟨d,q',k1,by rw [List.getElem?_append_left (by omega)];exact k2⟩) (by
   rw [List.append_assoc];show (d,q)::A=zmp l0.toArray (qp++q::qs) (i+1) L;unfold zmp;have k1:((l0.toArray)[i]?).bind (·.dst)=some d:=by rw [show (l0.toArray)[i]?=some o by simpa using e1];exact hd
   have k2:(qp++q::qs)[i]?=some q:=by rw [List.getElem?_append_right (by omega),show i-qp.length=0 by omega];rfl
   rw [k1,k2,h5])
  rw [List.append_assoc] at e2;refine ⟨zbe.cons ?_ e2.1, ?_⟩
  ·rw [← depA_eq hall _ hdep,← h5];exact h
  ·rw [e2.2];show zmp l0.toArray (qp++q::qs) (i+1+qs.length) L=zmp l0.toArray (qp++q::qs) (i+(q::qs).length) L;rw [List.length_cons];congr 1;omega
class TA (P:Program) (ops:Array Oper) (L:Lst) (i m:Nat) (p:Prop) (A:Lst) (l:List Oper) (qs:outParam (List Pd)) (A':outParam Lst) (r:outParam Prop):Prop where
 h:p→r→AA P ops L i A l qs A'
section
variable {o : Op} {l : List Oper} {q : Pd} {qs : List Pd} {A A' : Lst} {d i m : Nat} {r1 r2 r p p1 : Prop} {ty : TypeId} {ps : String} {af : List Edge} {g : Option (Nat × Bool)}
instance ta0:TA P ops L i 0 True A l [] A True:=⟨fun _ _=>.nil⟩
instance ta1 [j:TO True P ops ⟨some d,o,ty,ps,af.toArray,g⟩ (depA i A L af) q r1] [k:TA P ops L (i+1) m p ((d,q)::A) l qs A' r2] [z:Cj r1 r2 r]:TA P ops L i (m+1) p A (⟨some d,o,ty,ps,af.toArray,g⟩::l) (q::qs) A' r:=⟨fun hp hr=>.cons (j.h (z.h hr).1 trivial) rfl (k.h hp (z.h hr).2)⟩
instance ta2 [j:TH p1 True P ops ⟨some d,o,ty,ps,af.toArray,g⟩ (depA i A L af) q] [k:TA P ops L (i+1) m p ((d,q)::A) l qs A' r]:TA P ops L i (m+1) (p1∧p) A (⟨some d,o,ty,ps,af.toArray,g⟩::l) (q::qs) A' r:=⟨fun hp hr=>.cons (j.h hp.1 trivial) rfl (k.h hp.2 hr)⟩
instance (priority:=high) ta3 {α:Type} {E:En α} {x y:α} [j:TO True P ops ⟨some d,o,ty,ps,af.toArray,g⟩ (depA i A L af) (Pd.rep E y) r1] [k:TA P ops L (i+1) m p ((d,Pd.rep E x)::A) l qs A' r2] [z:Cj r1 r2 r]:TA P ops L i (m+1) (x=y∧p) A (⟨some d,o,ty,ps,af.toArray,g⟩::l) (Pd.rep E x::qs) A' r:=⟨fun hp hr=>.cons (by rw [hp.1];exact j.h (z.h hr).1 trivial) rfl (k.h hp.2 (z.h hr).2)⟩
instance (priority:=high) ta4 {α:Type} {E:En α} {x y:α} {c:Prop} [j:TO True P ops ⟨some d,o,ty,ps,af.toArray,g⟩ (depA i A L af) (Pd.when c (Pd.rep E y)) r1] [k:TA P ops L (i+1) m p ((d,Pd.when c (Pd.rep E x))::A) l qs A' r2] [z:Cj r1 r2 r]:TA P ops L i (m+1) (x=y∧p) A (⟨some d,o,ty,ps,af.toArray,g⟩::l) (Pd.when c (Pd.rep E x)::qs) A' r:=⟨fun hp hr=>.cons (by rw [hp.1];exact j.h (z.h hr).1 trivial) rfl (k.h hp.2 (z.h hr).2)⟩
end
class Dp (m:Nat) (l:List Oper) (l':outParam (List Oper)):Prop where
 h:l.drop m=l'
instance dp0 {l:List Oper}:Dp 0 l l:=⟨rfl⟩
instance dp1 {m:Nat} {o:Oper} {l l':List Oper} [h:Dp m l l']:Dp (m+1) (o::l) l':=⟨by rw [List.drop_succ_cons];exact h.h⟩
theorem dp {m:Nat} {l l':List Oper} [i:Dp m l l'] (h:wpList P ops Q l' a s.w):wpList P ops Q (l.drop m) a s.w:=i.h ▸ h
theorem rdx {l':List Oper} {r p:Prop} {qs:List Pd} (m:Nat) (hp:p) (hL:Has M n s0 a s L) (hB:∀a' s',Has M n s0 a' s' L'→wpList P l.toArray Q l' a' s'.w) [i:TA P l.toArray L 0 m p L l qs L' r] [j:Dp m l l'] (hr:r:=by exact rr)
  (hf:P.follows .mixedOrders=true:=by exact zck) (hok:zd0 l.toArray m n (L.map (·.1)) []=true:=by kernel_rfl) (hq:Nat.beq qs.length m=true:=by rfl) (hm:Nat.ble m l.length=true:=by rfl):(Code.region id l.toArray true).wp P Q a s.w:=by
 have h:=AA.all hok (i.h hp hr) [] [] rfl rfl rfl (fun j hj=>by omega) rfl;refine rda hf m qs hL hok hq hm h.1 fun a s _ hL=>dp (hB a s ?_);have e:=h.2;rw [Nat.zero_add,Nat.eq_of_beq_eq_true hq] at e;rw [e];exact hL
theorem cn {t:Nat} {b:Bool} {x y:Code} {A B:Prop} (hL:Has M n s0 a s L) (h:(b=true→A)∧(b=false→B)) (h1:A→x.wp P Q a s.w) (h2:B→y.wp P Q a s.w) (hl:lk L t=some (Pd.rep En.bool b):=by rfl):(Code.cond (.tmp t) x y).wp P Q a s.w:=cnd hL hl (fun e=>h1 (h.1 e)) (fun e=>h2 (h.2 e))
section
variable {α : Type} {E : En α} {te g : Nat} {og : Option Nat} {xs : List α} {x : α}
theorem fzl (t:Nat) (hL:Has M n s0 a s L) (k:∀s',Has M n s0 a s' ((t,Pd.rep (En.slice E) xs)::L')→wpList P ops Q l a s'.w) (hl:lk L t=some (Pd.row E s0.w.heap.size te og xs):=by rfl) (hk:Kp (fun b=>og=some b) L L':=by exact ka):wpList P ops Q l a s.w:=by
 obtain ⟨s',hw,h⟩:=hL.freeze t hl hk;rw [← hw];exact k s' h
theorem fzc (t:Nat) (hL:Has M n s0 a s L) (k:∀s',Has M n s0 a s' ((t,Pd.rep (En.slice E) xs)::L')→b.wp P Q a s'.w) (hl:lk L t=some (Pd.row E s0.w.heap.size te og xs):=by rfl) (hk:Kp (fun b=>og=some b) L L':=by exact ka):b.wp P Q a s.w:=by
 obtain ⟨s',hw,h⟩:=hL.freeze t hl hk;rw [← hw];exact k s' h
theorem fbc (t:Nat) (hL:Has M n s0 a s L) (k:∀s',Has M n s0 a s' ((t,Pd.ptr E x)::L')→b.wp P Q a s'.w) (hl:lk L t=some (Pd.box E s0.w.heap.size g x):=by rfl) (hk:Kp (fun b=>some g=some b) L L':=by exact ka):b.wp P Q a s.w:=by
 obtain ⟨s',hw,h⟩:=hL.freezeb t hl hk;rw [← hw];exact k s' h
end
theorem lpn {c:Code} (I:Nat→Act→St→Prop) (k0:Nat) (h0:I k0 a s)
  (round:∀k a s,I (k+1) a s→∀K:Act→World→Prop,(∀a' s',I k a' s'→K a' s'.w)→c.wp P (Exit.then K Q) a s.w) (hz:∀a s,I 0 a s→False:=by intro a s h;repeat (obtain ⟨_,h⟩:=h)):(Code.loop c).wp P Q a s.w:=
 lpg I k0 h0 fun k a s h K hK=>match k,h with
  | 0,h=>(hz a s h).elim
  | k+1,h=>round k a s h K fun a' s' h'=>hK k a' s' (Nat.lt_succ_self k) h'
end
end
end Go.Proofs.YtjdaaiodniicoaaGreatDoor.V
namespace Go.Proofs.YtjdaaiodniicoaaGreatDoor.V
open Go
set_option linter.unusedVariables false
set_option maxRecDepth 100000
section
variable {u : Bool} [Dr u]
noncomputable abbrev En.SItem:En SItem:=(En.cat (En.int .i64) (En.cat (En.int .i64) (En.cat (En.int .i64) (En.int .i64))))
noncomputable abbrev En.Stwo_twice:En Stwo_twice:=(En.cat (En.slice En.SItem) (En.cat (En.slice En.SItem) En.bool))
noncomputable abbrev EnF83:En (Stwo_twice × Str→Prop):=En.fun Tryz.prog (fun q=>[Pd.rep En.Stwo_twice q.1]) (fun q=>Rq (Pd.rep En.str q.2))
noncomputable abbrev En.SOn_scantling_twice_two_search:En SOn_scantling_twice_two_search:=(En.cat (En.int .u8) En.Stwo_twice)
noncomputable abbrev EnF84:En (Stwo_twice × (List SOn_scantling_twice_two_search)→Prop):=En.fun Tryz.prog (fun q=>[Pd.rep En.Stwo_twice q.1]) (fun q=>Rq (Pd.rep (En.slice En.SOn_scantling_twice_two_search) q.2))
noncomputable abbrev EnF85:En (Stwo_twice × Bool→Prop):=En.fun Tryz.prog (fun q=>[Pd.rep En.Stwo_twice q.1]) (fun q=>Rq (Pd.rep En.bool q.2))
noncomputable abbrev EnF202:En (SItem × SItem × Int→Prop):=En.fun Tryz.prog (fun q=>[Pd.rep En.SItem q.1,Pd.rep En.SItem q.2.1]) (fun q=>Rq (Pd.rep (En.int .i64) q.2.2))
noncomputable abbrev EnF266:En (Cl × Int→Prop):=En.fun Tryz.prog (fun q=>[Pd.rep En.cls q.1]) (fun q=>Rq (Pd.rep (En.int .i64) q.2))
noncomputable abbrev EnF268:En (Cl × Cl × Int→Prop):=En.fun Tryz.prog (fun q=>[Pd.rep En.cls q.1,Pd.rep En.cls q.2.1]) (fun q=>Rq (Pd.rep (En.int .i64) q.2.2))
noncomputable abbrev En.SNode:En SNode:=(En.cat (En.int .i64) (En.cat (En.int .i64) (En.cat (En.int .i64) (En.cat (En.int .i64) (En.cat (En.int .i64) (En.cat En.cls En.str))))))
noncomputable abbrev En.SDesc:En SDesc:=En.solo (En.slice En.SNode)
noncomputable abbrev En.SVerdict:En SVerdict:=(En.cat (En.int .i64) (En.cat (En.slice (En.int .u8)) (En.cat (En.slice (En.int .u8)) (En.cat (En.int .i64) (En.cat (En.int .i64) (En.cat (En.int .i64) (En.int .i64)))))))
noncomputable abbrev En.Sof_twice:En Sof_twice:=En.solo En.SDesc
noncomputable abbrev En.SFound_scantling_twice_two_search:En SFound_scantling_twice_two_search:=(En.cat En.SVerdict En.Stwo_twice)
noncomputable abbrev En.SSpace_scantling_twice_two_search:En SSpace_scantling_twice_two_search:=(En.cat En.Stwo_twice (En.cat EnF83 (En.cat EnF84 EnF85)))
noncomputable abbrev En.Smade_scantling_twice_two_search:En Smade_scantling_twice_two_search:=(En.cat En.Stwo_twice (En.cat (En.int .i64) (En.int .u8)))
noncomputable abbrev En.SBranch:En SBranch:=(En.cat (En.slice En.SItem) (En.int .i64))
noncomputable abbrev En.Sstep_next:En Sstep_next:=(En.cat En.SNode (En.cat En.SItem (En.int .u8)))
theorem ty3:Ty Tryz.prog 3 (En.int .i64):=⟨⟨_,_,rfl,rfl,rfl,rfl,by decide⟩,_,rfl,rfl⟩
theorem ty4:Ty Tryz.prog 4 En.bool:=⟨⟨_,_,rfl,rfl,rfl,rfl,by decide⟩,_,rfl,rfl⟩
theorem ty5:Ty Tryz.prog 5 (En.int .u8):=⟨⟨_,_,rfl,rfl,rfl,rfl,by decide⟩,_,rfl,rfl⟩
theorem ty9:Ty Tryz.prog 9 En.str:=⟨⟨_,_,rfl,rfl,rfl,rfl,by decide⟩,_,rfl,rfl⟩
theorem ty22:Ty Tryz.prog 22 (En.slice En.SNode):=⟨⟨_,_,rfl,rfl,rfl,rfl,by decide⟩,_,rfl,rfl⟩
theorem ty24:Ty Tryz.prog 24 En.SDesc:=⟨⟨_,_,rfl,rfl,rfl,rfl,by decide⟩,_,rfl,rfl⟩
theorem ty29:Ty Tryz.prog 29 (En.slice (En.int .u8)):=⟨⟨_,_,rfl,rfl,rfl,rfl,by decide⟩,_,rfl,rfl⟩
theorem ty32:Ty Tryz.prog 32 En.SVerdict:=⟨⟨_,_,rfl,rfl,rfl,rfl,by decide⟩,_,rfl,rfl⟩
theorem ty38:Ty Tryz.prog 38 (En.int .u64):=⟨⟨_,_,rfl,rfl,rfl,rfl,by decide⟩,_,rfl,rfl⟩
theorem zgk:Ty Tryz.prog 40 En.cls:=⟨⟨_,_,rfl,rfl,rfl,rfl,by decide⟩,_,rfl,rfl⟩
theorem ty42:Ty Tryz.prog 42 En.SNode:=⟨⟨_,_,rfl,rfl,rfl,rfl,by decide⟩,_,rfl,rfl⟩
theorem ty75:Ty Tryz.prog 75 En.Sof_twice:=⟨⟨_,_,rfl,rfl,rfl,rfl,by decide⟩,_,rfl,rfl⟩
theorem ty77:Ty Tryz.prog 77 (En.slice En.SItem):=⟨⟨_,_,rfl,rfl,rfl,rfl,by decide⟩,_,rfl,rfl⟩
theorem ty80:Ty Tryz.prog 80 En.Stwo_twice:=⟨⟨_,_,rfl,rfl,rfl,rfl,by decide⟩,_,rfl,rfl⟩
theorem ty82:Ty Tryz.prog 82 En.SFound_scantling_twice_two_search:=⟨⟨_,_,rfl,rfl,rfl,rfl,by decide⟩,_,rfl,rfl⟩
theorem ty83:Ty Tryz.prog 83 EnF83:=⟨⟨_,_,rfl,rfl,rfl,rfl,by decide⟩,_,rfl,rfl⟩
theorem ty84:Ty Tryz.prog 84 EnF84:=⟨⟨_,_,rfl,rfl,rfl,rfl,by decide⟩,_,rfl,rfl⟩
theorem ty85:Ty Tryz.prog 85 EnF85:=⟨⟨_,_,rfl,rfl,rfl,rfl,by decide⟩,_,rfl,rfl⟩
theorem zi0:Ty Tryz.prog 126 En.SItem:=⟨⟨_,_,rfl,rfl,rfl,rfl,by decide⟩,_,rfl,rfl⟩
theorem ty132:Ty Tryz.prog 132 En.SOn_scantling_twice_two_search:=⟨⟨_,_,rfl,rfl,rfl,rfl,by decide⟩,_,rfl,rfl⟩
theorem ty135:Ty Tryz.prog 135 En.Smade_scantling_twice_two_search:=⟨⟨_,_,rfl,rfl,rfl,rfl,by decide⟩,_,rfl,rfl⟩
theorem ty155:Ty Tryz.prog 155 En.SBranch:=⟨⟨_,_,rfl,rfl,rfl,rfl,by decide⟩,_,rfl,rfl⟩
theorem ty266:Ty Tryz.prog 266 EnF266:=⟨⟨_,_,rfl,rfl,rfl,rfl,by decide⟩,_,rfl,rfl⟩
theorem tyz3:TyZ Tryz.prog 3 (En.int .i64) (0:Int):=⟨_,_,[.int .i64 0],rfl,rfl,by rfl,fun _ _=>⟨rfl,by decide⟩⟩
theorem tyz4:TyZ Tryz.prog 4 En.bool (false:Bool):=⟨_,_,[.bool false],rfl,rfl,by rfl,fun _ _=>(by rfl)⟩
theorem znw:TyZ Tryz.prog 24 En.SDesc ([]:SDesc):=⟨_,_,[.slice none 0 0],rfl,rfl,by rfl,fun _ _=>⟨_,rfl,zcx _ _ _⟩⟩
theorem znv:TyZ Tryz.prog 32 En.SVerdict ((0,[],[],0,0,0,0):SVerdict):=⟨_,_,([.int .i64 0]++([.slice none 0 0]++([.slice none 0 0]++([.int .i64 0]++([.int .i64 0]++([.int .i64 0]++[.int .i64 0])))))),rfl,rfl,by rfl,fun _ _=>⟨_,_,rfl,⟨rfl,by decide⟩,⟨_,_,rfl,⟨_,rfl,zcx _ _ _⟩,⟨_,_,rfl,⟨_,rfl,zcx _ _ _⟩,⟨_,_,rfl,⟨rfl,by decide⟩,⟨_,_,rfl,⟨rfl,by decide⟩,⟨_,_,rfl,⟨rfl,by decide⟩,⟨rfl,by decide⟩⟩⟩⟩⟩⟩⟩⟩
theorem zk2:TyZ Tryz.prog 40 En.cls ((0#256):Cl):=⟨_,_,zbu 0#256,rfl,rfl,by rfl,fun _ _=>rfl⟩
theorem zko:TyZ Tryz.prog 42 En.SNode ((0,0,0,0,0,(0#256),([]:Str)):SNode):=⟨_,_,([.int .i64 0]++([.int .i64 0]++([.int .i64 0]++([.int .i64 0]++([.int .i64 0]++(zbu 0#256++[.string ⟨#[]⟩])))))),rfl,rfl,by rfl,fun _ _=>⟨_,_,rfl,⟨rfl,by decide⟩,⟨_,_,rfl,⟨rfl,by decide⟩,⟨_,_,rfl,⟨rfl,by decide⟩,⟨_,_,rfl,⟨rfl,by decide⟩,⟨_,_,rfl,⟨rfl,by decide⟩,⟨_,_,rfl,rfl,⟨rfl,by decide⟩⟩⟩⟩⟩⟩⟩⟩
theorem tyz75:TyZ Tryz.prog 75 En.Sof_twice ([]:Sof_twice):=⟨_,_,[.slice none 0 0],rfl,rfl,by rfl,fun _ _=>⟨_,rfl,zcx _ _ _⟩⟩
theorem tyz80:TyZ Tryz.prog 80 En.Stwo_twice (([],[],false):Stwo_twice):=⟨_,_,([.slice none 0 0]++([.slice none 0 0]++[.bool false])),rfl,rfl,by rfl,fun _ _=>⟨_,_,rfl,⟨_,rfl,zcx _ _ _⟩,⟨_,_,rfl,⟨_,rfl,zcx _ _ _⟩,(by rfl)⟩⟩⟩
theorem tyz82:TyZ Tryz.prog 82 En.SFound_scantling_twice_two_search (((0,[],[],0,0,0,0),([],[],false)):SFound_scantling_twice_two_search):=⟨_,_,(([.int .i64 0]++([.slice none 0 0]++([.slice none 0 0]++([.int .i64 0]++([.int .i64 0]++([.int .i64 0]++[.int .i64 0]))))))++([.slice none 0 0]++([.slice none 0 0]++[.bool false]))),rfl,rfl,by rfl,fun _ _=>⟨_,_,rfl,⟨_,_,rfl,⟨rfl,by decide⟩,⟨_,_,rfl,⟨_,rfl,zcx _ _ _⟩,⟨_,_,rfl,⟨_,rfl,zcx _ _ _⟩,⟨_,_,rfl,⟨rfl,by decide⟩,⟨_,_,rfl,⟨rfl,by decide⟩,⟨_,_,rfl,⟨rfl,by decide⟩,⟨rfl,by decide⟩⟩⟩⟩⟩⟩⟩,⟨_,_,rfl,⟨_,rfl,zcx _ _ _⟩,⟨_,_,rfl,⟨_,rfl,zcx _ _ _⟩,(by rfl)⟩⟩⟩⟩
theorem tyz87:TyZ Tryz.prog 87 En.SSpace_scantling_twice_two_search ((([],[],false),(fun _=>False),(fun _=>False),(fun _=>False)):SSpace_scantling_twice_two_search):=⟨_,_,(([.slice none 0 0]++([.slice none 0 0]++[.bool false]))++([.nilFunc]++([.nilFunc]++[.nilFunc]))),rfl,rfl,by rfl,fun _ _=>⟨_,_,rfl,⟨_,_,rfl,⟨_,rfl,zcx _ _ _⟩,⟨_,_,rfl,⟨_,rfl,zcx _ _ _⟩,(by rfl)⟩⟩,⟨_,_,rfl,.inl ⟨rfl,fun _ h=>h⟩,⟨_,_,rfl,.inl ⟨rfl,fun _ h=>h⟩,.inl ⟨rfl,fun _ h=>h⟩⟩⟩⟩⟩
theorem zga:TyZ Tryz.prog 126 En.SItem ((0,0,0,0):SItem):=⟨_,_,([.int .i64 0]++([.int .i64 0]++([.int .i64 0]++[.int .i64 0]))),rfl,rfl,by rfl,fun _ _=>⟨_,_,rfl,⟨rfl,by decide⟩,⟨_,_,rfl,⟨rfl,by decide⟩,⟨_,_,rfl,⟨rfl,by decide⟩,⟨rfl,by decide⟩⟩⟩⟩⟩
theorem tyz132:TyZ Tryz.prog 132 En.SOn_scantling_twice_two_search ((0,([],[],false)):SOn_scantling_twice_two_search):=⟨_,_,([.int .u8 0]++([.slice none 0 0]++([.slice none 0 0]++[.bool false]))),rfl,rfl,by rfl,fun _ _=>⟨_,_,rfl,⟨rfl,by decide⟩,⟨_,_,rfl,⟨_,rfl,zcx _ _ _⟩,⟨_,_,rfl,⟨_,rfl,zcx _ _ _⟩,(by rfl)⟩⟩⟩⟩
theorem tyz135:TyZ Tryz.prog 135 En.Smade_scantling_twice_two_search ((([],[],false),0,0):Smade_scantling_twice_two_search):=⟨_,_,(([.slice none 0 0]++([.slice none 0 0]++[.bool false]))++([.int .i64 0]++[.int .u8 0])),rfl,rfl,by rfl,fun _ _=>⟨_,_,rfl,⟨_,_,rfl,⟨_,rfl,zcx _ _ _⟩,⟨_,_,rfl,⟨_,rfl,zcx _ _ _⟩,(by rfl)⟩⟩,⟨_,_,rfl,⟨rfl,by decide⟩,⟨rfl,by decide⟩⟩⟩⟩
theorem zhp:TyZ Tryz.prog 155 En.SBranch (([],0):SBranch):=⟨_,_,([.slice none 0 0]++[.int .i64 0]),rfl,rfl,by rfl,fun _ _=>⟨_,_,rfl,⟨_,rfl,zcx _ _ _⟩,⟨rfl,by decide⟩⟩⟩
theorem tyz225:TyZ Tryz.prog 225 En.Sstep_next (((0,0,0,0,0,(0#256),([]:Str)),(0,0,0,0),0):Sstep_next):=⟨_,_,(([.int .i64 0]++([.int .i64 0]++([.int .i64 0]++([.int .i64 0]++([.int .i64 0]++(zbu 0#256++[.string ⟨#[]⟩]))))))++(([.int .i64 0]++([.int .i64 0]++([.int .i64 0]++[.int .i64 0])))++[.int .u8 0])),rfl,rfl,by rfl,fun _ _=>⟨_,_,rfl,⟨_,_,rfl,⟨rfl,by decide⟩,⟨_,_,rfl,⟨rfl,by decide⟩,⟨_,_,rfl,⟨rfl,by decide⟩,⟨_,_,rfl,⟨rfl,by decide⟩,⟨_,_,rfl,⟨rfl,by decide⟩,⟨_,_,rfl,rfl,⟨rfl,by decide⟩⟩⟩⟩⟩⟩⟩,⟨_,_,rfl,⟨_,_,rfl,⟨rfl,by decide⟩,⟨_,_,rfl,⟨rfl,by decide⟩,⟨_,_,rfl,⟨rfl,by decide⟩,⟨rfl,by decide⟩⟩⟩⟩,⟨rfl,by decide⟩⟩⟩⟩
theorem tyz266:TyZ Tryz.prog 266 EnF266 ((fun _=>False):(Cl × Int→Prop)):=⟨_,_,[.nilFunc],rfl,rfl,by rfl,fun _ _=>.inl ⟨rfl,fun _ h=>h⟩⟩
theorem tyv3:TyV Tryz.prog 3 (En.int .i64) (0:Int):=⟨_,[.int .i64 0],rfl,by rfl,fun _ _=>⟨rfl,by decide⟩⟩
theorem tyv4:TyV Tryz.prog 4 En.bool (false:Bool):=⟨_,[.bool false],rfl,by rfl,fun _ _=>(by rfl)⟩
theorem stt24:Stt Tryz.prog 24 [(0,1)]:=⟨_,Tryz.underlying24,by kernel_rfl⟩
theorem stt32:Stt Tryz.prog 32 [(0,1),(1,1),(2,1),(3,1),(4,1),(5,1),(6,1)]:=⟨_,Tryz.underlying32,by kernel_rfl⟩
theorem stt42:Stt Tryz.prog 42 [(0,1),(1,1),(2,1),(3,1),(4,1),(5,4),(9,1)]:=⟨_,Tryz.underlying42,by kernel_rfl⟩
theorem stt75:Stt Tryz.prog 75 [(0,1)]:=⟨_,Tryz.underlying75,by kernel_rfl⟩
theorem stt80:Stt Tryz.prog 80 [(0,1),(1,1),(2,1)]:=⟨_,Tryz.underlying80,by kernel_rfl⟩
theorem stt82:Stt Tryz.prog 82 [(0,7),(7,3)]:=⟨_,Tryz.underlying82,by kernel_rfl⟩
theorem stt87:Stt Tryz.prog 87 [(0,3),(3,1),(4,1),(5,1)]:=⟨_,Tryz.underlying87,by kernel_rfl⟩
theorem zmm:Stt Tryz.prog 126 [(0,1),(1,1),(2,1),(3,1)]:=⟨_,Tryz.underlying126,by kernel_rfl⟩
theorem stt132:Stt Tryz.prog 132 [(0,1),(1,3)]:=⟨_,Tryz.underlying132,by kernel_rfl⟩
theorem stt135:Stt Tryz.prog 135 [(0,3),(3,1),(4,1)]:=⟨_,Tryz.underlying135,by kernel_rfl⟩
theorem stt155:Stt Tryz.prog 155 [(0,1),(1,1)]:=⟨_,Tryz.underlying155,by kernel_rfl⟩
theorem stt225:Stt Tryz.prog 225 [(0,10),(10,4),(14,1)]:=⟨_,Tryz.underlying225,by kernel_rfl⟩
instance ud3:Ud Tryz.prog 3 (.int .i64):=⟨Tryz.underlying3⟩
instance ud5:Ud Tryz.prog 5 (.int .u8):=⟨Tryz.underlying5⟩
instance ud9:Ud Tryz.prog 9 (.string):=⟨Tryz.underlying9⟩
instance ud22:Ud Tryz.prog 22 (.slice 42):=⟨Tryz.underlying22⟩
instance ud29:Ud Tryz.prog 29 (.slice 5):=⟨Tryz.underlying29⟩
instance ud40:Ud Tryz.prog 40 (.array 4 38):=⟨Tryz.underlying40⟩
instance ud61:Ud Tryz.prog 61 (.slice 77):=⟨Tryz.underlying61⟩
instance ud76:Ud Tryz.prog 76 (.slice 126):=⟨Tryz.underlying76⟩
instance ud77:Ud Tryz.prog 77 (.slice 126):=⟨Tryz.underlying77⟩
instance ud89:Ud Tryz.prog 89 (.slice 3):=⟨Tryz.underlying89⟩
instance ud90:Ud Tryz.prog 90 (.slice 3):=⟨Tryz.underlying90⟩
instance ud121:Ud Tryz.prog 121 (.map 9 4):=⟨Tryz.underlying121⟩
instance ud123:Ud Tryz.prog 123 (.slice 4):=⟨Tryz.underlying123⟩
instance ud128:Ud Tryz.prog 128 (.slice 132):=⟨Tryz.underlying128⟩
instance ud129:Ud Tryz.prog 129 (.slice 80):=⟨Tryz.underlying129⟩
instance ud136:Ud Tryz.prog 136 (.slice 135):=⟨Tryz.underlying136⟩
instance ud148:Ud Tryz.prog 148 (.slice 40):=⟨Tryz.underlying148⟩
instance ud152:Ud Tryz.prog 152 (.slice 155):=⟨Tryz.underlying152⟩
instance ud189:Ud Tryz.prog 189 (.map 40 4):=⟨Tryz.underlying189⟩
instance ud191:Ud Tryz.prog 191 (.map 9 3):=⟨Tryz.underlying191⟩
instance ud198:Ud Tryz.prog 198 (.int .u64):=⟨Tryz.underlying198⟩
instance ud288:Ud Tryz.prog 288 (.array 10 4):=⟨Tryz.underlying288⟩
instance us38:Us Tryz.prog 38 1:=⟨by rfl⟩
instance tq3:Tq Tryz.prog 3 (En.int .i64):=⟨ty3⟩
instance tq4:Tq Tryz.prog 4 En.bool:=⟨ty4⟩
instance tq5:Tq Tryz.prog 5 (En.int .u8):=⟨ty5⟩
instance tq9:Tq Tryz.prog 9 En.str:=⟨ty9⟩
instance tq22:Tq Tryz.prog 22 (En.slice En.SNode):=⟨ty22⟩
instance tq24:Tq Tryz.prog 24 En.SDesc:=⟨ty24⟩
instance tq29:Tq Tryz.prog 29 (En.slice (En.int .u8)):=⟨ty29⟩
instance tq32:Tq Tryz.prog 32 En.SVerdict:=⟨ty32⟩
instance tq38:Tq Tryz.prog 38 (En.int .u64):=⟨ty38⟩
instance tq40:Tq Tryz.prog 40 En.cls:=⟨zgk⟩
instance tq42:Tq Tryz.prog 42 En.SNode:=⟨ty42⟩
instance tq75:Tq Tryz.prog 75 En.Sof_twice:=⟨ty75⟩
instance tq77:Tq Tryz.prog 77 (En.slice En.SItem):=⟨ty77⟩
instance tq80:Tq Tryz.prog 80 En.Stwo_twice:=⟨ty80⟩
instance tq82:Tq Tryz.prog 82 En.SFound_scantling_twice_two_search:=⟨ty82⟩
instance tq83:Tq Tryz.prog 83 EnF83:=⟨ty83⟩
instance tq84:Tq Tryz.prog 84 EnF84:=⟨ty84⟩
instance tq85:Tq Tryz.prog 85 EnF85:=⟨ty85⟩
instance tq126:Tq Tryz.prog 126 En.SItem:=⟨zi0⟩
instance tq132:Tq Tryz.prog 132 En.SOn_scantling_twice_two_search:=⟨ty132⟩
instance tq135:Tq Tryz.prog 135 En.Smade_scantling_twice_two_search:=⟨ty135⟩
instance tq155:Tq Tryz.prog 155 En.SBranch:=⟨ty155⟩
instance tq266:Tq Tryz.prog 266 EnF266:=⟨ty266⟩
instance fd24_0 {a:SDesc}:Fd Tryz.prog 24 0 En.SDesc a 0 (En.slice En.SNode) a:=⟨_,_,Tryz.underlying24,rfl,(zfv (zn _ _)),rfl,ty22⟩
instance fd32_0 {a:SVerdict}:Fd Tryz.prog 32 0 En.SVerdict a 0 (En.int .i64) a.1:=⟨_,_,Tryz.underlying32,rfl,(zx (zn _ _)),rfl,ty3⟩
instance fd32_1 {a:SVerdict}:Fd Tryz.prog 32 1 En.SVerdict a 1 (En.slice (En.int .u8)) a.2.1:=⟨_,_,Tryz.underlying32,rfl,(ze (zx (zn _ _)) rfl),rfl,ty29⟩
instance fd32_6 {a:SVerdict}:Fd Tryz.prog 32 6 En.SVerdict a 6 (En.int .i64) a.2.2.2.2.2.2:=⟨_,_,Tryz.underlying32,rfl,(ze (ze (ze (ze (ze (ze (zn _ _) rfl) rfl) rfl) rfl) rfl) rfl),rfl,ty3⟩
instance fd42_0 {a:SNode}:Fd Tryz.prog 42 0 En.SNode a 0 (En.int .i64) a.1:=⟨_,_,Tryz.underlying42,rfl,(zx (zn _ _)),rfl,ty3⟩
instance fd42_1 {a:SNode}:Fd Tryz.prog 42 1 En.SNode a 1 (En.int .i64) a.2.1:=⟨_,_,Tryz.underlying42,rfl,(ze (zx (zn _ _)) rfl),rfl,ty3⟩
instance fd42_2 {a:SNode}:Fd Tryz.prog 42 2 En.SNode a 2 (En.int .i64) a.2.2.1:=⟨_,_,Tryz.underlying42,rfl,(ze (ze (zx (zn _ _)) rfl) rfl),rfl,ty3⟩
instance fd42_3 {a:SNode}:Fd Tryz.prog 42 3 En.SNode a 3 (En.int .i64) a.2.2.2.1:=⟨_,_,Tryz.underlying42,rfl,(ze (ze (ze (zx (zn _ _)) rfl) rfl) rfl),rfl,ty3⟩
instance fd42_4 {a:SNode}:Fd Tryz.prog 42 4 En.SNode a 4 (En.int .i64) a.2.2.2.2.1:=⟨_,_,Tryz.underlying42,rfl,(ze (ze (ze (ze (zx (zn _ _)) rfl) rfl) rfl) rfl),rfl,ty3⟩
instance fd42_5 {a:SNode}:Fd Tryz.prog 42 5 En.SNode a 5 En.cls a.2.2.2.2.2.1:=⟨_,_,Tryz.underlying42,rfl,(ze (ze (ze (ze (ze (zx (zn _ _)) rfl) rfl) rfl) rfl) rfl),rfl,zgk⟩
instance fd42_6 {a:SNode}:Fd Tryz.prog 42 6 En.SNode a 9 En.str a.2.2.2.2.2.2:=⟨_,_,Tryz.underlying42,rfl,(ze (ze (ze (ze (ze (ze (zn _ _) rfl) rfl) rfl) rfl) rfl) rfl),rfl,ty9⟩
instance fd75_0 {a:Sof_twice}:Fd Tryz.prog 75 0 En.Sof_twice a 0 En.SDesc a:=⟨_,_,Tryz.underlying75,rfl,(zfv (zn _ _)),rfl,ty24⟩
instance fd80_0 {a:Stwo_twice}:Fd Tryz.prog 80 0 En.Stwo_twice a 0 (En.slice En.SItem) a.1:=⟨_,_,Tryz.underlying80,rfl,(zx (zn _ _)),rfl,ty77⟩
instance fd80_1 {a:Stwo_twice}:Fd Tryz.prog 80 1 En.Stwo_twice a 1 (En.slice En.SItem) a.2.1:=⟨_,_,Tryz.underlying80,rfl,(ze (zx (zn _ _)) rfl),rfl,ty77⟩
instance fd80_2 {a:Stwo_twice}:Fd Tryz.prog 80 2 En.Stwo_twice a 2 En.bool a.2.2:=⟨_,_,Tryz.underlying80,rfl,(ze (ze (zn _ _) rfl) rfl),rfl,ty4⟩
instance fd82_0 {a:SFound_scantling_twice_two_search}:Fd Tryz.prog 82 0 En.SFound_scantling_twice_two_search a 0 En.SVerdict a.1:=⟨_,_,Tryz.underlying82,rfl,(zx (zn _ _)),rfl,ty32⟩
instance fd87_0 {a:SSpace_scantling_twice_two_search}:Fd Tryz.prog 87 0 En.SSpace_scantling_twice_two_search a 0 En.Stwo_twice a.1:=⟨_,_,Tryz.underlying87,rfl,(zx (zn _ _)),rfl,ty80⟩
instance fd87_1 {a:SSpace_scantling_twice_two_search}:Fd Tryz.prog 87 1 En.SSpace_scantling_twice_two_search a 3 EnF83 a.2.1:=⟨_,_,Tryz.underlying87,rfl,(ze (zx (zn _ _)) rfl),rfl,ty83⟩
instance fd87_2 {a:SSpace_scantling_twice_two_search}:Fd Tryz.prog 87 2 En.SSpace_scantling_twice_two_search a 4 EnF84 a.2.2.1:=⟨_,_,Tryz.underlying87,rfl,(ze (ze (zx (zn _ _)) rfl) rfl),rfl,ty84⟩
instance fd87_3 {a:SSpace_scantling_twice_two_search}:Fd Tryz.prog 87 3 En.SSpace_scantling_twice_two_search a 5 EnF85 a.2.2.2:=⟨_,_,Tryz.underlying87,rfl,(ze (ze (ze (zn _ _) rfl) rfl) rfl),rfl,ty85⟩
instance fd126_0 {a:SItem}:Fd Tryz.prog 126 0 En.SItem a 0 (En.int .i64) a.1:=⟨_,_,Tryz.underlying126,rfl,(zx (zn _ _)),rfl,ty3⟩
instance fd126_1 {a:SItem}:Fd Tryz.prog 126 1 En.SItem a 1 (En.int .i64) a.2.1:=⟨_,_,Tryz.underlying126,rfl,(ze (zx (zn _ _)) rfl),rfl,ty3⟩
instance fd126_2 {a:SItem}:Fd Tryz.prog 126 2 En.SItem a 2 (En.int .i64) a.2.2.1:=⟨_,_,Tryz.underlying126,rfl,(ze (ze (zx (zn _ _)) rfl) rfl),rfl,ty3⟩
instance fd126_3 {a:SItem}:Fd Tryz.prog 126 3 En.SItem a 3 (En.int .i64) a.2.2.2:=⟨_,_,Tryz.underlying126,rfl,(ze (ze (ze (zn _ _) rfl) rfl) rfl),rfl,ty3⟩
instance fd132_0 {a:SOn_scantling_twice_two_search}:Fd Tryz.prog 132 0 En.SOn_scantling_twice_two_search a 0 (En.int .u8) a.1:=⟨_,_,Tryz.underlying132,rfl,(zx (zn _ _)),rfl,ty5⟩
instance fd132_1 {a:SOn_scantling_twice_two_search}:Fd Tryz.prog 132 1 En.SOn_scantling_twice_two_search a 1 En.Stwo_twice a.2:=⟨_,_,Tryz.underlying132,rfl,(ze (zn _ _) rfl),rfl,ty80⟩
instance fd135_0 {a:Smade_scantling_twice_two_search}:Fd Tryz.prog 135 0 En.Smade_scantling_twice_two_search a 0 En.Stwo_twice a.1:=⟨_,_,Tryz.underlying135,rfl,(zx (zn _ _)),rfl,ty80⟩
instance fd135_1 {a:Smade_scantling_twice_two_search}:Fd Tryz.prog 135 1 En.Smade_scantling_twice_two_search a 3 (En.int .i64) a.2.1:=⟨_,_,Tryz.underlying135,rfl,(ze (zx (zn _ _)) rfl),rfl,ty3⟩
instance fd135_2 {a:Smade_scantling_twice_two_search}:Fd Tryz.prog 135 2 En.Smade_scantling_twice_two_search a 4 (En.int .u8) a.2.2:=⟨_,_,Tryz.underlying135,rfl,(ze (ze (zn _ _) rfl) rfl),rfl,ty5⟩
instance fd155_0 {a:SBranch}:Fd Tryz.prog 155 0 En.SBranch a 0 (En.slice En.SItem) a.1:=⟨_,_,Tryz.underlying155,rfl,(zx (zn _ _)),rfl,ty77⟩
instance fd155_1 {a:SBranch}:Fd Tryz.prog 155 1 En.SBranch a 1 (En.int .i64) a.2:=⟨_,_,Tryz.underlying155,rfl,(ze (zn _ _) rfl),rfl,ty3⟩
instance fd225_0 {a:Sstep_next}:Fd Tryz.prog 225 0 En.Sstep_next a 0 En.SNode a.1:=⟨_,_,Tryz.underlying225,rfl,(zx (zn _ _)),rfl,ty42⟩
instance fd225_1 {a:Sstep_next}:Fd Tryz.prog 225 1 En.Sstep_next a 10 En.SItem a.2.1:=⟨_,_,Tryz.underlying225,rfl,(ze (zx (zn _ _)) rfl),rfl,zi0⟩
instance fd225_2 {a:Sstep_next}:Fd Tryz.prog 225 2 En.Sstep_next a 14 (En.int .u8) a.2.2:=⟨_,_,Tryz.underlying225,rfl,(ze (ze (zn _ _) rfl) rfl),rfl,ty5⟩
theorem eqi42:EqI Tryz.prog 3 42 En.SNode:=eqi_struct rfl (by kernel_rfl) (by kernel_rfl) rfl (zh1 (EqI.up (zo6 Tryz.underlying3) (by decide)) ty3 (by kernel_rfl) (by kernel_rfl) (zh1 (EqI.up (zo6 Tryz.underlying3) (by decide)) ty3 (by kernel_rfl) (by kernel_rfl) (zh1 (EqI.up (zo6 Tryz.underlying3) (by decide)) ty3 (by kernel_rfl) (by kernel_rfl) (zh1 (EqI.up (zo6 Tryz.underlying3) (by decide)) ty3 (by kernel_rfl) (by kernel_rfl) (zh1 (EqI.up (zo6 Tryz.underlying3) (by decide)) ty3 (by kernel_rfl) (by kernel_rfl) (zh1 (EqI.up (eqi_cls Tryz.underlying40 Tryz.underlying38 (by kernel_rfl)) (by decide)) zgk (by kernel_rfl) (by kernel_rfl) (eqfs_last (EqI.up (eqi_str Tryz.underlying9) (by decide)) ty9 (by kernel_rfl) (by kernel_rfl))))))))
theorem eq42:Eqv Tryz.prog 42 En.SNode:=eqv_struct eqi42 (by decide) rfl (by kernel_rfl)
theorem zr2:KeyT Tryz.prog 40 En.cls kvCls:=key_cls Tryz.underlying40 Tryz.underlying38 (by kernel_rfl) (by kernel_rfl) (by kernel_rfl) ⟨_,rfl⟩ (by kernel_rfl) (by kernel_rfl)
end
end Go.Proofs.YtjdaaiodniicoaaGreatDoor.V
namespace Go.Proofs.YtjdaaiodniicoaaGreatDoor.V
open Go
set_option linter.unusedVariables false
def zh.j1 (r_:(List SItem)) (newslice8:(List SItem)):Prop:=r_=newslice8
def zh.l1 (slices_:(List (List SItem))) (X1:(List SItem)→Prop):Nat→(List SItem)→Int→Prop
 | 0,_,_=>False
 | k_0+1,newslice11,v13=>((decide (v13<(slices_.length:Int)))=true→∃e19:(List SItem),at? slices_ v13=some e19∧(newslice11.length+e19.length≤2147483648)∧(InR .i64 (v13+1))∧zh.l1 slices_ X1 k_0 (newslice11++e19) (v13+1))∧((decide (v13<(slices_.length:Int)))=false→X1 newslice11)
def zh.j2 (slices_:(List (List SItem))) (r_:(List SItem)) (size2:Int):Prop:=∃r4:(List SItem),zdz [] size2 r4∧∃k14,zh.l1 slices_ (zh.j1 r_) k14 r4 0
def zh.l2 (slices_:(List (List SItem))) (X2:Int→Prop):Nat→Int→Int→Prop
 | 0,_,_=>False
 | k_0+1,size24,v25=>((decide (v25<(slices_.length:Int)))=true→∃e31:(List SItem),at? slices_ v25=some e31∧(InR .i64 (size24+(e31.length:Int)))∧((decide (size24+(e31.length:Int)<0))=true→False)∧((decide (size24+(e31.length:Int)<0))=false→(InR .i64 (v25+1))∧zh.l2 slices_ X2 k_0 (size24+(e31.length:Int)) (v25+1)))∧((decide (v25<(slices_.length:Int)))=false→X2 size24)
def zh (slices_:(List (List SItem))) (r_:(List SItem)):Prop:=∃k26,zh.l2 slices_ (zh.j2 slices_ r_) k26 0 0
def zeo (x_:Int) (r_:Bool):Prop:=r_=(x_ != x_)
def zcl (x_:Int) (y_:Int) (r_:Int):Prop:=∃r1:Bool,zeo x_ r1∧∃r3:Bool,zeo y_ r3∧((r1)=true→((r3)=true→r_=0)∧((r3)=false→r_=(-1)))∧((r1)=false→((r3)=true→r_=1)∧((r3)=false→((decide (x_<y_))=true→r_=(-1))∧((decide (x_<y_))=false→((decide (y_<x_))=true→r_=1)∧((decide (y_<x_))=false→r_=0))))
def zf.j1 (s1_:(List SItem)) (s2_:(List SItem)) (r_:Int):Prop:=((decide ((s1_.length:Int)<(s2_.length:Int)))=true→r_=(-1))∧((decide ((s1_.length:Int)<(s2_.length:Int)))=false→r_=0)
def zf.l1 (s1_:(List SItem)) (s2_:(List SItem)) (cmp_:(SItem × SItem × Int→Prop)) (r_:Int) (X1:Prop):Nat→Int→Prop
 | 0,_=>False
 | k_0+1,v4=>((decide (v4<(s1_.length:Int)))=true→∃e10:SItem,at? s1_ v4=some e10∧((decide ((s2_.length:Int)≤v4))=true→r_=1)∧((decide ((s2_.length:Int)≤v4))=false→∃e14:SItem,at? s2_ v4=some e14∧∃r18:Int,cmp_ (e10,e14,r18)∧(((r18 != 0))=true→r_=r18)∧(((r18 != 0))=false→(InR .i64 (v4+1))∧zf.l1 s1_ s2_ cmp_ r_ X1 k_0 (v4+1))))∧((decide (v4<(s1_.length:Int)))=false→X1)
def zf (s1_:(List SItem)) (s2_:(List SItem)) (cmp_:(SItem × SItem × Int→Prop)) (r_:Int):Prop:=∃k5,zf.l1 s1_ s2_ cmp_ r_ (zf.j1 s1_ s2_ r_) k5 0
def zcp.j1 (r_:Int):Prop:=r_=0
def zcp.l1 (vals_:(List Int)) (r_:Int) (X1:Prop):Nat→Int→Prop
 | 0,_=>False
 | k_0+1,v3=>((decide (v3<(vals_.length:Int)))=true→∃e9:Int,at? vals_ v3=some e9∧(((e9 != 0))=true→r_=e9)∧(((e9 != 0))=false→(InR .i64 (v3+1))∧zcp.l1 vals_ r_ X1 k_0 (v3+1)))∧((decide (v3<(vals_.length:Int)))=false→X1)
def zcp (vals_:(List Int)) (r_:Int):Prop:=∃k4,zcp.l1 vals_ r_ (zcp.j1 r_) k4 0
def zb1 (s_:(List SItem)) (r_:(List SItem)):Prop:=∀b2:Bool,(b2=true→s_=[])→((b2)=true→r_=([]:(List SItem)))∧((b2)=false→(([]:(List SItem)).length+s_.length≤2147483648)∧r_=([]:(List SItem))++s_)
def zd.j1 (r_:(List Cl)) (data2:(List Cl)):Prop:=r_=data2
def zd.j2 (L1_:(List Cl)→Int→Prop) (i5:Int) (data11:(List Cl)):Prop:=(InR .i64 (i5+1))∧L1_ data11 (i5+1)
def zd.l2 (a_:Int) (cmp_:(Cl × Cl × Int→Prop)) (X2:(List Cl)→Prop):Nat→(List Cl)→Int→Prop
 | 0,_,_=>False
 | k_0+1,data14,j15=>∃e20:Cl,(((decide (a_<j15))=true)→at? data14 j15=some e20)∧(((decide (a_<j15))=true)→InR .i64 (j15-1))∧∃e23:Cl,(((decide (a_<j15))=true)→at? data14 (j15-1)=some e23)∧∃r25:Int,(((decide (a_<j15))=true)→cmp_ (e20,e23,r25))∧((((decide (a_<j15))&&(decide (r25<0))))=true→(InR .i64 (j15-1))∧(InR .i64 (j15-1))∧∃e30:Cl,at? data14 (j15-1)=some e30∧∃e32:Cl,at? data14 j15=some e32∧∃e34:Cl,at? data14 j15=some e34∧∃e36:Cl,at? (data14.set (j15:Int).toNat e30) (j15-1)=some e36∧(InR .i64 (j15-1))∧zd.l2 a_ cmp_ X2 k_0 ((data14.set (j15:Int).toNat e30).set (j15-1:Int).toNat e32) (j15-1))∧((((decide (a_<j15))&&(decide (r25<0))))=false→X2 data14)
def zd.l1 (a_:Int) (b_:Int) (cmp_:(Cl × Cl × Int→Prop)) (X1:(List Cl)→Prop):Nat→(List Cl)→Int→Prop
 | 0,_,_=>False
 | k_0+1,data4,i5=>((decide (i5<b_))=true→∃k16,zd.l2 a_ cmp_ (zd.j2 (zd.l1 a_ b_ cmp_ X1 k_0) i5) k16 data4 i5)∧((decide (i5<b_))=false→X1 data4)
def zd (data_:(List Cl)) (a_:Int) (b_:Int) (cmp_:(Cl × Cl × Int→Prop)) (r_:(List Cl)):Prop:=(InR .i64 (a_+1))∧∃k6,zd.l1 a_ b_ cmp_ (zd.j1 r_) k6 data_ (a_+1)
def zl.j1 (r_:(List Cl)) (data1:(List Cl)):Prop:=r_=data1
def zl.l1 (a_:Int) (b_:Int) (nv_:Int) (X1:(List Cl)→Prop):Nat→(List Cl)→Int→Prop
 | 0,_,_=>False
 | k_0+1,data3,i4=>((decide (i4<nv_))=true→(InR .i64 (a_+i4))∧(InR .i64 (b_+i4))∧(InR .i64 (b_+i4))∧∃e13:Cl,at? data3 (b_+i4)=some e13∧(InR .i64 (a_+i4))∧∃e16:Cl,at? data3 (a_+i4)=some e16∧∃e18:Cl,at? data3 (a_+i4)=some e18∧∃e20:Cl,at? (data3.set (a_+i4:Int).toNat e13) (b_+i4)=some e20∧(InR .i64 (i4+1))∧zl.l1 a_ b_ nv_ X1 k_0 ((data3.set (a_+i4:Int).toNat e13).set (b_+i4:Int).toNat e16) (i4+1))∧((decide (i4<nv_))=false→X1 data3)
def zl (data_:(List Cl)) (a_:Int) (b_:Int) (nv_:Int) (cmp_:(Cl × Cl × Int→Prop)) (r_:(List Cl)):Prop:=∃k5,zl.l1 a_ b_ nv_ (zl.j1 r_) k5 data_ 0
def zt.j1 (m_:Int) (cmp_:(Cl × Cl × Int→Prop)) (r_:(List Cl)) (data4:(List Cl)) (i5:Int):Prop:=(InR .i64 (m_-i5))∧∃r8:(List Cl),zl data4 (m_-i5) m_ i5 cmp_ r8∧r_=r8
def zt.l1 (m_:Int) (cmp_:(Cl × Cl × Int→Prop)) (X1:(List Cl)→Int→Prop):Nat→(List Cl)→Int→Int→Prop
 | 0,_,_,_=>False
 | k_0+1,data10,i11,j12=>(((i11 != j12))=true→((decide (j12<i11))=true→(InR .i64 (m_-i11))∧∃r18:(List Cl),zl data10 (m_-i11) m_ j12 cmp_ r18∧(InR .i64 (i11-j12))∧zt.l1 m_ cmp_ X1 k_0 r18 (i11-j12) j12)∧((decide (j12<i11))=false→(InR .i64 (m_-i11))∧(InR .i64 (m_+j12))∧(InR .i64 ((m_+j12)-i11))∧∃r24:(List Cl),zl data10 (m_-i11) ((m_+j12)-i11) i11 cmp_ r24∧(InR .i64 (j12-i11))∧zt.l1 m_ cmp_ X1 k_0 r24 i11 (j12-i11)))∧(((i11 != j12))=false→X1 data10 i11)
def zt (data_:(List Cl)) (a_:Int) (m_:Int) (b_:Int) (cmp_:(Cl × Cl × Int→Prop)) (r_:(List Cl)):Prop:=(InR .i64 (m_-a_))∧(InR .i64 (b_-m_))∧∃k13,zt.l1 m_ cmp_ (zt.j1 m_ cmp_ r_) k13 data_ (m_-a_) (b_-m_)
def za.j1 (r_:(List Cl)) (data7:(List Cl)):Prop:=r_=data7
def za.l1 (i4:Int) (X1:(List Cl)→Prop):Nat→(List Cl)→Int→Prop
 | 0,_,_=>False
 | k_0+1,data9,k10=>(InR .i64 (i4-1))∧((decide (k10<i4-1))=true→(InR .i64 (k10+1))∧(InR .i64 (k10+1))∧∃e19:Cl,at? data9 (k10+1)=some e19∧∃e21:Cl,at? data9 k10=some e21∧∃e23:Cl,at? data9 k10=some e23∧∃e25:Cl,at? (data9.set (k10:Int).toNat e19) (k10+1)=some e25∧(InR .i64 (k10+1))∧za.l1 i4 X1 k_0 ((data9.set (k10:Int).toNat e19).set (k10+1:Int).toNat e21) (k10+1))∧((decide (k10<i4-1))=false→X1 data9)
def za.j2 (data_:(List Cl)) (a_:Int) (r_:(List Cl)) (i4:Int):Prop:=∃k11,za.l1 i4 (za.j1 r_) k11 data_ a_
def za.l2 (data_:(List Cl)) (a_:Int) (cmp_:(Cl × Cl × Int→Prop)) (X2:Int→Prop):Nat→Int→Int→Prop
 | 0,_,_=>False
 | k_0+1,i28,j29=>((decide (i28<j29))=true→(InR .i64 (i28+j29))∧∃i35:Int,i35=(IntKind.wrap .i64 (zqk (IntKind.wrap .u64 (i28+j29)) 1))∧∃e37:Cl,at? data_ i35=some e37∧∃e39:Cl,at? data_ a_=some e39∧∃r41:Int,cmp_ (e37,e39,r41)∧((decide (r41<0))=true→(InR .i64 (i35+1))∧za.l2 data_ a_ cmp_ X2 k_0 (i35+1) j29)∧((decide (r41<0))=false→za.l2 data_ a_ cmp_ X2 k_0 i28 i35))∧((decide (i28<j29))=false→X2 i28)
def za.j3 (r_:(List Cl)) (data50:(List Cl)):Prop:=r_=data50
def za.l3 (i47:Int) (X3:(List Cl)→Prop):Nat→(List Cl)→Int→Prop
 | 0,_,_=>False
 | k_0+1,data52,k53=>((decide (i47<k53))=true→(InR .i64 (k53-1))∧(InR .i64 (k53-1))∧∃e61:Cl,at? data52 (k53-1)=some e61∧∃e63:Cl,at? data52 k53=some e63∧∃e65:Cl,at? data52 k53=some e65∧∃e67:Cl,at? (data52.set (k53:Int).toNat e61) (k53-1)=some e67∧(InR .i64 (k53-1))∧za.l3 i47 X3 k_0 ((data52.set (k53:Int).toNat e61).set (k53-1:Int).toNat e63) (k53-1))∧((decide (i47<k53))=false→X3 data52)
def za.j4 (data_:(List Cl)) (m_:Int) (r_:(List Cl)) (i47:Int):Prop:=∃k54,za.l3 i47 (za.j3 r_) k54 data_ m_
def za.l4 (data_:(List Cl)) (m_:Int) (cmp_:(Cl × Cl × Int→Prop)) (X4:Int→Prop):Nat→Int→Int→Prop
 | 0,_,_=>False
 | k_0+1,i70,j71=>((decide (i70<j71))=true→(InR .i64 (i70+j71))∧∃i77:Int,i77=(IntKind.wrap .i64 (zqk (IntKind.wrap .u64 (i70+j71)) 1))∧∃e79:Cl,at? data_ m_=some e79∧∃e81:Cl,at? data_ i77=some e81∧∃r83:Int,cmp_ (e79,e81,r83)∧(((!(decide (r83<0))))=true→(InR .i64 (i77+1))∧za.l4 data_ m_ cmp_ X4 k_0 (i77+1) j71)∧(((!(decide (r83<0))))=false→za.l4 data_ m_ cmp_ X4 k_0 i70 i77))∧((decide (i70<j71))=false→X4 i70)
def za.j5 (n_:(List Cl)→Int→Int→Int→(Cl × Cl × Int→Prop)→(List Cl)→Prop) (m_:Int) (b_:Int) (cmp_:(Cl × Cl × Int→Prop)) (r_:(List Cl)) (i87:Int) (start96:Int) (data107:(List Cl)):Prop:=∃b109:Bool,b109=((decide (i87<(i87+m_)-start96))&&(decide ((i87+m_)-start96<b_)))∧((b109)=true→∃r111:(List Cl),n_ data107 i87 ((i87+m_)-start96) b_ cmp_ r111∧r_=r111)∧((b109)=false→r_=data107)
def za.j6 (n_:(List Cl)→Int→Int→Int→(Cl × Cl × Int→Prop)→(List Cl)→Prop) (a_:Int) (m_:Int) (b_:Int) (cmp_:(Cl × Cl × Int→Prop)) (r_:(List Cl)) (i87:Int) (start96:Int) (data102:(List Cl)):Prop:=∃b105:Bool,b105=((decide (a_<start96))&&(decide (start96<i87)))∧((b105)=true→∃r113:(List Cl),n_ data102 a_ start96 i87 cmp_ r113∧(za.j5 (n_) m_ b_ cmp_ r_ i87 start96) r113)∧((b105)=false→(za.j5 (n_) m_ b_ cmp_ r_ i87 start96) data102)
def za.j7 (n_:(List Cl)→Int→Int→Int→(Cl × Cl × Int→Prop)→(List Cl)→Prop) (data_:(List Cl)) (a_:Int) (m_:Int) (b_:Int) (cmp_:(Cl × Cl × Int→Prop)) (r_:(List Cl)) (i87:Int) (start96:Int):Prop:=(InR .i64 ((i87+m_)-start96))∧∃b100:Bool,b100=((decide (start96<m_))&&(decide (m_<(i87+m_)-start96)))∧((b100)=true→∃r115:(List Cl),zt data_ start96 m_ ((i87+m_)-start96) cmp_ r115∧(za.j6 (n_) a_ m_ b_ cmp_ r_ i87 start96) r115)∧((b100)=false→(za.j6 (n_) a_ m_ b_ cmp_ r_ i87 start96) data_)
def za.l5 (data_:(List Cl)) (m_:Int) (cmp_:(Cl × Cl × Int→Prop)) (i87:Int) (X5:Int→Prop):Nat→Int→Int→Prop
 | 0,_,_=>False
 | k_0+1,start117,r118=>((decide (start117<r118))=true→(InR .i64 (start117+r118))∧∃i124:Int,i124=(IntKind.wrap .i64 (zqk (IntKind.wrap .u64 (start117+r118)) 1))∧(InR .i64 (((i87+m_)-1)-i124))∧∃e127:Cl,at? data_ (((i87+m_)-1)-i124)=some e127∧∃e129:Cl,at? data_ i124=some e129∧∃r131:Int,cmp_ (e127,e129,r131)∧(((!(decide (r131<0))))=true→(InR .i64 (i124+1))∧za.l5 data_ m_ cmp_ i87 X5 k_0 (i124+1) r118)∧(((!(decide (r131<0))))=false→za.l5 data_ m_ cmp_ i87 X5 k_0 start117 i124))∧((decide (start117<r118))=false→X5 start117)
def za.j8 (n_:(List Cl)→Int→Int→Int→(Cl × Cl × Int→Prop)→(List Cl)→Prop) (data_:(List Cl)) (a_:Int) (m_:Int) (b_:Int) (cmp_:(Cl × Cl × Int→Prop)) (r_:(List Cl)) (i87:Int) (start91:Int) (r92:Int):Prop:=(InR .i64 ((i87+m_)-1))∧∃k119,za.l5 data_ m_ cmp_ i87 (za.j7 (n_) data_ a_ m_ b_ cmp_ r_ i87) k119 start91 r92
def za.n:Nat→(List Cl)→Int→Int→Int→(Cl × Cl × Int→Prop)→(List Cl)→Prop
 | 0,_,_,_,_,_,_=>False
 | k_+1,data_,a_,m_,b_,cmp_,r_=>(InR .i64 (m_-a_))∧((((m_-a_)==1))=true→∃k30,za.l2 data_ a_ cmp_ (za.j2 data_ a_ r_) k30 m_ b_)∧((((m_-a_)==1))=false→(InR .i64 (b_-m_))∧((((b_-m_)==1))=true→∃k72,za.l4 data_ m_ cmp_ (za.j4 data_ m_ r_) k72 a_ m_)∧((((b_-m_)==1))=false→(InR .i64 (a_+b_))∧∃i87:Int,i87=(IntKind.wrap .i64 (zqk (IntKind.wrap .u64 (a_+b_)) 1))∧(InR .i64 (i87+m_))∧((decide (i87<m_))=true→(InR .i64 ((i87+m_)-b_))∧(za.j8 (za.n k_) data_ a_ m_ b_ cmp_ r_ i87) ((i87+m_)-b_) i87)∧((decide (i87<m_))=false→(za.j8 (za.n k_) data_ a_ m_ b_ cmp_ r_ i87) a_ m_)))
def za (data_:(List Cl)) (a_:Int) (m_:Int) (b_:Int) (cmp_:(Cl × Cl × Int→Prop)) (r_:(List Cl)):Prop:=∃k_,za.n k_ data_ a_ m_ b_ cmp_ r_
def zb.j1 (r_:(List Cl)) (data7:(List Cl)):Prop:=r_=data7
def zb.j2 (L1_:(List Cl)→Int→Prop) (nv_:Int) (cmp_:(Cl × Cl × Int→Prop)) (blockSize10:Int) (data17:(List Cl)) (a18:Int):Prop:=(InR .i64 (a18+blockSize10))∧((decide (a18+blockSize10<nv_))=true→∃r22:(List Cl),za data17 a18 (a18+blockSize10) nv_ cmp_ r22∧(InR .i64 (blockSize10*2))∧L1_ r22 (blockSize10*2))∧((decide (a18+blockSize10<nv_))=false→(InR .i64 (blockSize10*2))∧L1_ data17 (blockSize10*2))
def zb.l2 (nv_:Int) (cmp_:(Cl × Cl × Int→Prop)) (blockSize10:Int) (X2:(List Cl)→Int→Prop):Nat→(List Cl)→Int→Int→Prop
 | 0,_,_,_=>False
 | k_0+1,data26,a27,b28=>((decide (b28≤nv_))=true→(InR .i64 (a27+blockSize10))∧∃r34:(List Cl),za data26 a27 (a27+blockSize10) b28 cmp_ r34∧(InR .i64 (2*blockSize10))∧(InR .i64 (b28+(2*blockSize10)))∧zb.l2 nv_ cmp_ blockSize10 X2 k_0 r34 b28 (b28+(2*blockSize10)))∧((decide (b28≤nv_))=false→X2 data26 a27)
def zb.l1 (nv_:Int) (cmp_:(Cl × Cl × Int→Prop)) (X1:(List Cl)→Prop):Nat→(List Cl)→Int→Prop
 | 0,_,_=>False
 | k_0+1,data9,blockSize10=>((decide (blockSize10<nv_))=true→(InR .i64 (2*blockSize10))∧∃k29,zb.l2 nv_ cmp_ blockSize10 (zb.j2 (zb.l1 nv_ cmp_ X1 k_0) nv_ cmp_ blockSize10) k29 data9 0 (2*blockSize10))∧((decide (blockSize10<nv_))=false→X1 data9)
def zb.j3 (nv_:Int) (cmp_:(Cl × Cl × Int→Prop)) (r_:(List Cl)) (data2:(List Cl)) (a3:Int):Prop:=∃r5:(List Cl),zd data2 a3 nv_ cmp_ r5∧∃k11,zb.l1 nv_ cmp_ (zb.j1 r_) k11 r5 20
def zb.l3 (nv_:Int) (cmp_:(Cl × Cl × Int→Prop)) (X3:(List Cl)→Int→Prop):Nat→(List Cl)→Int→Int→Prop
 | 0,_,_,_=>False
 | k_0+1,data38,a39,b40=>((decide (b40≤nv_))=true→∃r45:(List Cl),zd data38 a39 b40 cmp_ r45∧(InR .i64 (b40+20))∧zb.l3 nv_ cmp_ X3 k_0 r45 b40 (b40+20))∧((decide (b40≤nv_))=false→X3 data38 a39)
def zb (data_:(List Cl)) (nv_:Int) (cmp_:(Cl × Cl × Int→Prop)) (r_:(List Cl)):Prop:=∃k41,zb.l3 nv_ cmp_ (zb.j3 nv_ cmp_ r_) k41 data_ 0 20
def zbk (x_:(List Cl)) (cmp_:(Cl × Cl × Int→Prop)) (r_:(List Cl)):Prop:=∃r1:(List Cl),zb x_ (x_.length:Int) cmp_ r1∧r_=r1
def zy.j1 (r_:(List Int)) (s2:(List Int)):Prop:=r_=s2
def zy.l1 (X1:(List Int)→Prop):Nat→(List Int)→Int→Int→Prop
 | 0,_,_,_=>False
 | k_0+1,s4,i5,j6=>((decide (i5<j6))=true→∃e12:Int,at? s4 j6=some e12∧∃e14:Int,at? s4 i5=some e14∧∃e16:Int,at? s4 i5=some e16∧∃e18:Int,at? (s4.set (i5:Int).toNat e12) j6=some e18∧(InR .i64 (i5+1))∧(InR .i64 (j6-1))∧zy.l1 X1 k_0 ((s4.set (i5:Int).toNat e12).set (j6:Int).toNat e14) (i5+1) (j6-1))∧((decide (i5<j6))=false→X1 s4)
def zy (s_:(List Int)) (r_:(List Int)):Prop:=(InR .i64 ((s_.length:Int)-1))∧∃k7,zy.l1 (zy.j1 r_) k7 s_ 0 ((s_.length:Int)-1)
def zf2 (a_:Cl) (cv_:Int) (r_:Bool):Prop:=(0≤(cv_ / 64)∧(cv_ / 64)<4)∧∃b2:Bool,b2=((andI (zqk (Cl.w a_ (cv_ / 64)) (cv_ % 64)) 1)==1)∧r_=b2
def zc8.j1 (r_:Cl) (a5:Cl):Prop:=r_=a5
def zc8.l1 (list_:(List Int)) (X1:Cl→Prop):Nat→Cl→Int→Prop
 | 0,_,_=>False
 | k_0+1,a8,v9=>((decide (v9<(list_.length:Int)))=true→∃e16:Int,at? list_ v9=some e16∧(0≤(e16 / 64)∧(e16 / 64)<4)∧(0≤(e16 / 64)∧(e16 / 64)<4)∧(InR .i64 (v9+1))∧zc8.l1 list_ X1 k_0 (Cl.setw a8 (e16 / 64) (orI (Cl.w a8 (e16 / 64)) (shlI 1 (e16 % 64)))) (v9+1))∧((decide (v9<(list_.length:Int)))=false→X1 a8)
def zc8 (a_:Cl) (list_:(List Int)) (r_:Cl):Prop:=∃k10,zc8.l1 list_ (zc8.j1 r_) k10 a_ 0
def zdq.j1 (r_:Cl) (a5:Cl):Prop:=r_=a5
def zdq.l1 (from_:Int) (to_:Int) (X1:Cl→Prop):Nat→Cl→Int→Prop
 | 0,_,_=>False
 | k_0+1,a8,v9=>((decide (v9<256))=true→∃b16:Bool,b16=((decide (from_≤v9 % 256))&&(decide (v9 % 256≤to_)))∧((b16)=true→∃r18:Cl,zc8 a8 [v9 % 256] r18∧(InR .i64 (v9+1))∧zdq.l1 from_ to_ X1 k_0 r18 (v9+1))∧((b16)=false→(InR .i64 (v9+1))∧zdq.l1 from_ to_ X1 k_0 a8 (v9+1)))∧((decide (v9<256))=false→X1 a8)
def zdq (from_:Int) (to_:Int) (r_:Cl):Prop:=∃k10,zdq.l1 from_ to_ (zdq.j1 r_) k10 (0#256) 0
def zc7.j1 (r_:Cl) (a5:Cl):Prop:=r_=a5
def zc7.l1 (X1:Cl→Prop):Nat→Cl→Int→Prop
 | 0,_,_=>False
 | k_0+1,a8,v9=>((decide (v9<4))=true→(0≤v9∧v9<4)∧(0≤v9∧v9<4)∧(InR .i64 (v9+1))∧zc7.l1 X1 k_0 (Cl.setw a8 v9 (xorI 18446744073709551615 (Cl.w a8 v9))) (v9+1))∧((decide (v9<4))=false→X1 a8)
def zc7 (a_:Cl) (r_:Cl):Prop:=∃k10,zc7.l1 (zc7.j1 r_) k10 a_ 0
def zcq.j1 (r_:Cl) (a5:Cl):Prop:=r_=a5
def zcq.l1 (b_:Cl) (X1:Cl→Prop):Nat→Cl→Int→Prop
 | 0,_,_=>False
 | k_0+1,a8,v9=>((decide (v9<4))=true→(0≤v9∧v9<4)∧(0≤v9∧v9<4)∧(0≤v9∧v9<4)∧(InR .i64 (v9+1))∧zcq.l1 b_ X1 k_0 (Cl.setw a8 v9 (andI (Cl.w a8 v9) (Cl.w b_ v9))) (v9+1))∧((decide (v9<4))=false→X1 a8)
def zcq (a_:Cl) (b_:Cl) (r_:Cl):Prop:=∃k10,zcq.l1 b_ (zcq.j1 r_) k10 a_ 0
def zb5.j1 (r_:Int) (n2:Int):Prop:=r_=n2
def zb5.l1 (a_:Cl) (X1:Int→Prop):Nat→Int→Int→Prop
 | 0,_,_=>False
 | k_0+1,n4,v5=>((decide (v5<256))=true→∃r11:Bool,zf2 a_ (v5 % 256) r11∧((r11)=true→(InR .i64 (n4+1))∧(InR .i64 (v5+1))∧zb5.l1 a_ X1 k_0 (n4+1) (v5+1))∧((r11)=false→(InR .i64 (v5+1))∧zb5.l1 a_ X1 k_0 n4 (v5+1)))∧((decide (v5<256))=false→X1 n4)
def zb5 (a_:Cl) (r_:Int):Prop:=∃k6,zb5.l1 a_ (zb5.j1 r_) k6 0 0
def zb0.j1 (r_:(Int × Bool)):Prop:=r_=(0,false)
def zb0.l1 (a_:Cl) (r_:(Int × Bool)) (X1:Prop):Nat→Int→Prop
 | 0,_=>False
 | k_0+1,v3=>((decide (v3<256))=true→∃r9:Bool,zf2 a_ (v3 % 256) r9∧((r9)=true→r_=(v3 % 256,true))∧((r9)=false→(InR .i64 (v3+1))∧zb0.l1 a_ r_ X1 k_0 (v3+1)))∧((decide (v3<256))=false→X1)
def zb0 (a_:Cl) (r_:(Int × Bool)):Prop:=∃k4,zb0.l1 a_ r_ (zb0.j1 r_) k4 0
def zbp.j1 (r_:Cl) (a5:Cl):Prop:=r_=a5
def zbp.j2 (L1_:Cl→Int→Prop) (w9:Int) (a16:Cl):Prop:=(InR .i64 (w9+1))∧L1_ a16 (w9+1)
def zbp.l2 (l_:(List Bool)) (w9:Int) (X2:Cl→Prop):Nat→Cl→Int→Int→Prop
 | 0,_,_,_=>False
 | k_0+1,a20,bit21,i22=>((decide (i22<64))=true→(InR .i64 (64*w9))∧(InR .i64 ((64*w9)+i22))∧∃e32:Bool,at? l_ ((64*w9)+i22)=some e32∧((e32)=true→(0≤w9∧w9<4)∧(0≤w9∧w9<4)∧(InR .i64 (i22+1))∧zbp.l2 l_ w9 X2 k_0 (Cl.setw a20 w9 (IntKind.wrap .u64 ((Cl.w a20 w9)+bit21))) (IntKind.wrap .u64 (bit21*2)) (i22+1))∧((e32)=false→(InR .i64 (i22+1))∧zbp.l2 l_ w9 X2 k_0 a20 (IntKind.wrap .u64 (bit21*2)) (i22+1)))∧((decide (i22<64))=false→X2 a20)
def zbp.l1 (l_:(List Bool)) (X1:Cl→Prop):Nat→Cl→Int→Prop
 | 0,_,_=>False
 | k_0+1,a8,w9=>((decide (w9<4))=true→∃k23,zbp.l2 l_ w9 (zbp.j2 (zbp.l1 l_ X1 k_0) w9) k23 a8 1 0)∧((decide (w9<4))=false→X1 a8)
def zbp (l_:(List Bool)) (r_:Cl):Prop:=∃k10,zbp.l1 l_ (zbp.j1 r_) k10 (0#256) 0
def zcz.j1 (r_:Cl) (l5:(List Bool)):Prop:=∃r9:Cl,zbp l5 r9∧r_=r9
def zcz.l1 (to_:Int) (X1:(List Bool)→Prop):Nat→(List Bool)→Int→Prop
 | 0,_,_=>False
 | k_0+1,l11,i13=>((decide (i13≤to_))=true→∃e20:Bool,at? l11 i13=some e20∧(InR .i64 (i13+1))∧zcz.l1 to_ X1 k_0 (l11.set (i13:Int).toNat true) (i13+1))∧((decide (i13≤to_))=false→X1 l11)
def zcz (from_:Int) (to_:Int) (r_:Cl):Prop:=∃k14,zcz.l1 to_ (zcz.j1 r_) k14 (List.replicate 256 false) from_
def zc0.j1 (r_:Bool) (w4:Int):Prop:=r_=((w4 % 2)==1)
def zc0.l1 (cv_:Int) (X1:Int→Prop):Nat→Int→Int→Prop
 | 0,_,_=>False
 | k_0+1,w6,i7=>(0≤cv_)∧((decide (i7<cv_ % 64))=true→(InR .i64 (i7+1))∧zc0.l1 cv_ X1 k_0 (w6 / 2) (i7+1))∧((decide (i7<cv_ % 64))=false→X1 w6)
def zc0 (a_:Cl) (cv_:Int) (r_:Bool):Prop:=(0≤cv_)∧(0≤(cv_ / 64)∧(cv_ / 64)<4)∧∃k8,zc0.l1 cv_ (zc0.j1 r_) k8 (Cl.w a_ (cv_ / 64)) 0
def zeb (a_:Cl) (r_:Int):Prop:=∃r1:(Int × Bool),zb0 a_ r1∧r_=r1.1
def zer (a_:Cl) (b_:Cl) (cap0_:(Cl × Int→Prop)) (r_:Int):Prop:=∃r1:Int,cap0_ (a_,r1)∧∃r3:Int,cap0_ (b_,r3)∧(InR .i64 (r1-r3))∧r_=r1-r3
def zbc.j1 (r_:(List Cl)) (out2:(List Cl)):Prop:=∃r7:(List Cl),zbk out2 (fun q_=>zer q_.1 q_.2.1 (fun q_=>zeb q_.1 q_.2) q_.2.2) r7∧r_=r7
def zbc.j2 (L1_:(List Cl)→Int→Prop) (v11:Int) (out27:(List Cl)):Prop:=(InR .i64 (v11+1))∧L1_ out27 (v11+1)
def zbc.l2 (r21:Cl) (r25:Cl) (X2:(List Cl)→Prop):Nat→(List Cl)→Int→Prop
 | 0,_,_=>False
 | k_0+1,out31,v33=>((decide (v33<([r21,r25].length:Int)))=true→∃e39:Cl,at? [r21,r25] v33=some e39∧∃r43:Int,zb5 e39 r43∧((decide (0<r43))=true→(out31.length+[e39].length≤2147483648)∧(InR .i64 (v33+1))∧zbc.l2 r21 r25 X2 k_0 (out31++[e39]) (v33+1))∧((decide (0<r43))=false→(InR .i64 (v33+1))∧zbc.l2 r21 r25 X2 k_0 out31 (v33+1)))∧((decide (v33<([r21,r25].length:Int)))=false→X2 out31)
def zbc.l1 (parts_:(List Cl)) (a_:Cl) (X1:(List Cl)→Prop):Nat→(List Cl)→Int→Prop
 | 0,_,_=>False
 | k_0+1,out9,v11=>((decide (v11<(parts_.length:Int)))=true→∃e17:Cl,at? parts_ v11=some e17∧∃r21:Cl,zcq e17 a_ r21∧∃r23:Cl,zc7 a_ r23∧∃r25:Cl,zcq e17 r23 r25∧∃k34,zbc.l2 r21 r25 (zbc.j2 (zbc.l1 parts_ a_ X1 k_0) v11) k34 out9 0)∧((decide (v11<(parts_.length:Int)))=false→X1 out9)
def zbc (parts_:(List Cl)) (a_:Cl) (r_:(List Cl)):Prop:=∃k12,zbc.l1 parts_ a_ (zbc.j1 r_) k12 ([]:(List Cl)) 0
def zca.j1 (r_:(List Cl)) (out5:(List Cl)):Prop:=r_=out5
def zca.l1 (list_:(List Cl)) (X1:(List Cl)→Prop):Nat→(List Cl)→Int→Prop
 | 0,_,_=>False
 | k_0+1,out8,v10=>((decide (v10<(list_.length:Int)))=true→∃e16:Cl,at? list_ v10=some e16∧∃r20:(List Cl),zbc out8 e16 r20∧(InR .i64 (v10+1))∧zca.l1 list_ X1 k_0 r20 (v10+1))∧((decide (v10<(list_.length:Int)))=false→X1 out8)
def zca (list_:(List Cl)) (r_:(List Cl)):Prop:=∃r1:Cl,zc7 (0#256) r1∧∃k11,zca.l1 list_ (zca.j1 r_) k11 [r1] 0
def zcb.j1 (r_:(List Int)) (out4:(List Int)):Prop:=r_=out4
def zcb.l1 (r2:(List Cl)) (X1:(List Int)→Prop):Nat→(List Int)→Int→Prop
 | 0,_,_=>False
 | k_0+1,out7,v9=>((decide (v9<(r2.length:Int)))=true→∃e15:Cl,at? r2 v9=some e15∧∃r19:(Int × Bool),zb0 e15 r19∧(out7.length+[r19.1].length≤2147483648)∧(InR .i64 (v9+1))∧zcb.l1 r2 X1 k_0 (out7++[r19.1]) (v9+1))∧((decide (v9<(r2.length:Int)))=false→X1 out7)
def zcb (list_:(List Cl)) (r_:(List Int)):Prop:=∃r2:(List Cl),zca list_ r2∧∃k10,zcb.l1 r2 (zcb.j1 r_) k10 ([]:(List Int)) 0
def zcd.j1 (r_:Bool):Prop:=r_=true
def zcd.l1 (a_:(List Int)) (b_:(List Int)) (r_:Bool) (X1:Prop):Nat→Int→Prop
 | 0,_=>False
 | k_0+1,i4=>((decide (i4<(a_.length:Int)))=true→∃e10:Int,at? a_ i4=some e10∧∃e12:Int,at? b_ i4=some e12∧(((e10 != e12))=true→r_=false)∧(((e10 != e12))=false→(InR .i64 (i4+1))∧zcd.l1 a_ b_ r_ X1 k_0 (i4+1)))∧((decide (i4<(a_.length:Int)))=false→X1)
def zcd (a_:(List Int)) (b_:(List Int)) (r_:Bool):Prop:=((((a_.length:Int) != (b_.length:Int)))=true→r_=false)∧((((a_.length:Int) != (b_.length:Int)))=false→∃k5,zcd.l1 a_ b_ r_ (zcd.j1 r_) k5 0)
def zfu (s_:Str) (i_:Int) (from_:Int) (to_:Int) (r_:Bool):Prop:=∃c1:Int,(((decide (i_<(s_.length:Int)))=true)→zd9 s_ i_=some c1)∧∃b3:Bool,b3=((decide (i_<(s_.length:Int)))&&(decide (from_≤c1)))∧∃c5:Int,(((b3)=true)→zd9 s_ i_=some c5)∧r_=(b3&&(decide (c5≤to_)))
def zbl.j1 (r_:Bool):Prop:=r_=true
def zbl.l1 (s_:Str) (r_:Bool) (X1:Prop):Nat→Int→Prop
 | 0,_=>False
 | k_0+1,i3=>((decide (i3<(s_.length:Int)))=true→∃c8:Int,zd9 s_ i3=some c8∧(InR .i64 (i3+1))∧∃r11:Bool,zfu s_ (i3+1) 128 191 r11∧(InR .i64 (i3+2))∧∃r14:Bool,zfu s_ (i3+2) 128 191 r14∧(InR .i64 (i3+3))∧∃r17:Bool,zfu s_ (i3+3) 128 191 r17∧((decide (c8<128))=true→(InR .i64 (i3+1))∧zbl.l1 s_ r_ X1 k_0 (i3+1))∧((decide (c8<128))=false→∃b20:Bool,b20=(((decide (194≤c8))&&(decide (c8≤223)))&&r11)∧((b20)=true→(InR .i64 (i3+2))∧zbl.l1 s_ r_ X1 k_0 (i3+2))∧((b20)=false→((((c8==224))=true)→InR .i64 (i3+1))∧∃r24:Bool,((((c8==224))=true)→zfu s_ (i3+1) 160 191 r24)∧(((((c8==224)&&r24)&&r14))=true→(InR .i64 (i3+3))∧zbl.l1 s_ r_ X1 k_0 (i3+3))∧(((((c8==224)&&r24)&&r14))=false→∃b27:Bool,b27=(((decide (225≤c8))&&(decide (c8≤236)))||(c8==238))∧(((((b27||(c8==239))&&r11)&&r14))=true→(InR .i64 (i3+3))∧zbl.l1 s_ r_ X1 k_0 (i3+3))∧(((((b27||(c8==239))&&r11)&&r14))=false→((((c8==237))=true)→InR .i64 (i3+1))∧∃r31:Bool,((((c8==237))=true)→zfu s_ (i3+1) 128 159 r31)∧(((((c8==237)&&r31)&&r14))=true→(InR .i64 (i3+3))∧zbl.l1 s_ r_ X1 k_0 (i3+3))∧(((((c8==237)&&r31)&&r14))=false→((((c8==240))=true)→InR .i64 (i3+1))∧∃r35:Bool,((((c8==240))=true)→zfu s_ (i3+1) 144 191 r35)∧((((((c8==240)&&r35)&&r14)&&r17))=true→(InR .i64 (i3+4))∧zbl.l1 s_ r_ X1 k_0 (i3+4))∧((((((c8==240)&&r35)&&r14)&&r17))=false→∃b38:Bool,b38=(((decide (241≤c8))&&(decide (c8≤243)))&&r11)∧((((b38&&r14)&&r17))=true→(InR .i64 (i3+4))∧zbl.l1 s_ r_ X1 k_0 (i3+4))∧((((b38&&r14)&&r17))=false→((((c8==244))=true)→InR .i64 (i3+1))∧∃r42:Bool,((((c8==244))=true)→zfu s_ (i3+1) 128 143 r42)∧((((((c8==244)&&r42)&&r14)&&r17))=true→(InR .i64 (i3+4))∧zbl.l1 s_ r_ X1 k_0 (i3+4))∧((((((c8==244)&&r42)&&r14)&&r17))=false→r_=false)))))))))∧((decide (i3<(s_.length:Int)))=false→X1)
def zbl (s_:Str) (r_:Bool):Prop:=∃k4,zbl.l1 s_ r_ (zbl.j1 r_) k4 0
def zbd.j1 (r_:(List SNode)) (out2:(List SNode)):Prop:=r_=out2
def zbd.j2 (L1_:(List SNode)→Int→Prop) (out5:(List SNode)) (i7:Int) (n22:SNode):Prop:=(out5.length+[n22].length≤2147483648)∧(InR .i64 (i7+1))∧L1_ (out5++[n22]) (i7+1)
def zbd.j3 (L1_:(List SNode)→Int→Prop) (by_:Int) (out5:(List SNode)) (i7:Int) (n18:SNode):Prop:=((((n18.1==4)||(n18.1==5)))=true→(InR .i64 (n18.2.2.1+by_))∧(zbd.j2 (L1_) out5 i7) (n18.1,n18.2.1,n18.2.2.1+by_,n18.2.2.2.1,n18.2.2.2.2.1,n18.2.2.2.2.2.1,n18.2.2.2.2.2.2))∧((((n18.1==4)||(n18.1==5)))=false→(zbd.j2 (L1_) out5 i7) n18)
def zbd.l1 (l_:(List SNode)) (by_:Int) (X1:(List SNode)→Prop):Nat→(List SNode)→Int→Prop
 | 0,_,_=>False
 | k_0+1,out5,i7=>((decide (i7<(l_.length:Int)))=true→∃e13:SNode,at? l_ i7=some e13∧((decide (4≤e13.1))=true→(InR .i64 (e13.2.1+by_))∧(zbd.j3 (zbd.l1 l_ by_ X1 k_0) by_ out5 i7) (e13.1,e13.2.1+by_,e13.2.2.1,e13.2.2.2.1,e13.2.2.2.2.1,e13.2.2.2.2.2.1,e13.2.2.2.2.2.2))∧((decide (4≤e13.1))=false→(zbd.j3 (zbd.l1 l_ by_ X1 k_0) by_ out5 i7) e13))∧((decide (i7<(l_.length:Int)))=false→X1 out5)
def zbd (l_:(List SNode)) (by_:Int) (r_:(List SNode)):Prop:=∃k8,zbd.l1 l_ by_ (zbd.j1 r_) k8 ([]:(List SNode)) 0
def ze5 (kind_:Int) (a_:SDesc) (b_:SDesc) (r_:SDesc):Prop:=∃r4:(List SNode),zbd a_ 0 r4∧∃r6:(List SNode),zbd b_ (a_.length:Int) r6∧(r4.length+r6.length≤2147483648)∧(InR .i64 ((a_.length:Int)-1))∧(InR .i64 ((a_.length:Int)+(b_.length:Int)))∧(InR .i64 (((a_.length:Int)+(b_.length:Int))-1))∧((r4++r6).length+[(kind_,(a_.length:Int)-1,((a_.length:Int)+(b_.length:Int))-1,0,0,(0#256),([]:Str))].length≤2147483648)∧r_=(r4++r6)++[(kind_,(a_.length:Int)-1,((a_.length:Int)+(b_.length:Int))-1,0,0,(0#256),([]:Str))]
def zc5.j1 (d_:SDesc) (r_:Bool) (n2:Int):Prop:=∃b4:Bool,b4=((decide ((d_.length:Int)≤100))&&(decide (n2≤2000)))∧r_=b4
def zc5.l1 (d_:SDesc) (X1:Int→Prop):Nat→Int→Int→Prop
 | 0,_,_=>False
 | k_0+1,n6,i7=>∃b12:Bool,b12=((decide (i7<(d_.length:Int)))&&(decide (i7<200)))∧((b12)=true→∃e15:SNode,at? d_ i7=some e15∧(InR .i64 (n6+(e15.2.2.2.2.2.2.length:Int)))∧(InR .i64 (i7+1))∧zc5.l1 d_ X1 k_0 (n6+(e15.2.2.2.2.2.2.length:Int)) (i7+1))∧((b12)=false→X1 n6)
def zc5 (d_:SDesc) (r_:Bool):Prop:=∃k8,zc5.l1 d_ (zc5.j1 d_ r_) k8 0 0
def zm.j1 (r_:Int) (l2:(List Int)):Prop:=((((l2.length:Int)==0))=true→r_=0)∧((((l2.length:Int)==0))=false→(InR .i64 ((l2.length:Int)-1))∧∃e7:Int,at? l2 ((l2.length:Int)-1)=some e7∧r_=e7)
def zm.j2 (L1_:(List Int)→Int→Prop) (l9:(List Int)) (i11:Int) (w48:Int):Prop:=(l9.length+[(min w48 1000)].length≤2147483648)∧(InR .i64 (i11+1))∧L1_ (l9++[(min w48 1000)]) (i11+1)
def zm.j3 (L1_:(List Int)→Int→Prop) (l9:(List Int)) (i11:Int) (e19:SNode) (a26:Int) (w44:Int):Prop:=(((e19.1==7))=true→(InR .i64 (1+(max 0 (min e19.2.2.2.2.1 1000))))∧(InR .i64 ((1+(max 0 (min e19.2.2.2.2.1 1000)))*a26))∧(zm.j2 (L1_) l9 i11) ((1+(max 0 (min e19.2.2.2.2.1 1000)))*a26))∧(((e19.1==7))=false→(zm.j2 (L1_) l9 i11) w44)
def zm.j4 (L1_:(List Int)→Int→Prop) (l9:(List Int)) (i11:Int) (e19:SNode) (a26:Int) (w40:Int):Prop:=(((((e19.1==6)||(e19.1==8))||(e19.1==9)))=true→(InR .i64 (a26+1))∧(zm.j3 (L1_) l9 i11 e19 a26) (a26+1))∧(((((e19.1==6)||(e19.1==8))||(e19.1==9)))=false→(zm.j3 (L1_) l9 i11 e19 a26) w40)
def zm.j5 (L1_:(List Int)→Int→Prop) (l9:(List Int)) (i11:Int) (e19:SNode) (a26:Int) (b32:Int) (w36:Int):Prop:=((((e19.1==4)||(e19.1==5)))=true→(InR .i64 (a26+b32))∧(zm.j4 (L1_) l9 i11 e19 a26) (a26+b32))∧((((e19.1==4)||(e19.1==5)))=false→(zm.j4 (L1_) l9 i11 e19 a26) w36)
def zm.j6 (L1_:(List Int)→Int→Prop) (l9:(List Int)) (i11:Int) (e19:SNode) (a26:Int) (b32:Int):Prop:=(((e19.1==3))=true→(InR .i64 (1+(min (e19.2.2.2.2.2.2.length:Int) 1000)))∧(zm.j5 (L1_) l9 i11 e19 a26 b32) (1+(min (e19.2.2.2.2.2.2.length:Int) 1000)))∧(((e19.1==3))=false→(zm.j5 (L1_) l9 i11 e19 a26 b32) 1)
def zm.j7 (L1_:(List Int)→Int→Prop) (l9:(List Int)) (i11:Int) (e19:SNode) (a26:Int):Prop:=∃b30:Bool,b30=((decide (0≤e19.2.2.1))&&(decide (e19.2.2.1<(l9.length:Int))))∧((b30)=true→∃e58:Int,at? l9 e19.2.2.1=some e58∧(zm.j6 (L1_) l9 i11 e19 a26) e58)∧((b30)=false→(zm.j6 (L1_) l9 i11 e19 a26) 0)
def zm.l1 (d_:SDesc) (X1:(List Int)→Prop):Nat→(List Int)→Int→Prop
 | 0,_,_=>False
 | k_0+1,l9,i11=>∃b16:Bool,b16=((decide (i11<(d_.length:Int)))&&(decide (i11<200)))∧((b16)=true→∃e19:SNode,at? d_ i11=some e19∧∃b24:Bool,b24=((decide (0≤e19.2.1))&&(decide (e19.2.1<(l9.length:Int))))∧((b24)=true→∃e60:Int,at? l9 e19.2.1=some e60∧(zm.j7 (zm.l1 d_ X1 k_0) l9 i11 e19) e60)∧((b24)=false→(zm.j7 (zm.l1 d_ X1 k_0) l9 i11 e19) 0))∧((b16)=false→X1 l9)
def zm (d_:SDesc) (r_:Int):Prop:=∃k12,zm.l1 d_ (zm.j1 r_) k12 ([]:(List Int)) 0
def zcm.j1 (s_:Str) (r_:Bool):Prop:=∃r3:Bool,(((decide (0<(s_.length:Int)))=true)→zbl s_ r3)∧r_=((decide (0<(s_.length:Int)))&&r3)
def zcm.l1 (s_:Str) (r_:Bool) (X1:Prop):Nat→Int→Prop
 | 0,_=>False
 | k_0+1,i5=>((decide (i5<(s_.length:Int)))=true→∃c11:Int,zd9 s_ i5=some c11∧(((c11==34))=true→r_=false)∧(((c11==34))=false→(InR .i64 (i5+1))∧zcm.l1 s_ r_ X1 k_0 (i5+1)))∧((decide (i5<(s_.length:Int)))=false→X1)
def zcm (s_:Str) (r_:Bool):Prop:=∃k6,zcm.l1 s_ r_ (zcm.j1 s_ r_) k6 0
def z8.j1 (n_:(List SNode)→Int→Int→Prop) (l_:(List SNode)) (i_:Int) (r_:Int) (e2:SNode) (want23:SNode):Prop:=(InR .i64 (i_-1))∧∃r27:Int,n_ l_ (i_-1) r27∧(((e2 != want23))=true→r_=(-1))∧(((e2 != want23))=false→r_=r27)
def z8.j2 (n_:(List SNode)→Int→Int→Prop) (l_:(List SNode)) (i_:Int) (r_:Int) (e2:SNode) (v33:Bool):Prop:=((v33)=true→(InR .i64 (i_-1))∧(InR .i64 (i_-1))∧∃r38:Int,n_ l_ (i_-1) r38∧((decide (r38<0))=true→r_=(-1))∧((decide (r38<0))=false→(InR .i64 (r38-1))∧(InR .i64 (r38-1))∧∃r43:Int,n_ l_ (r38-1) r43∧∃b46:Bool,b46=(e2 != (e2.1,r38-1,i_-1,0,0,(0#256),([]:Str)))∧((b46)=true→r_=(-1))∧((b46)=false→r_=r43)))∧((v33)=false→r_=(-1))
def z8.j3 (n_:(List SNode)→Int→Int→Prop) (l_:(List SNode)) (i_:Int) (r_:Int) (e2:SNode) (v18:Bool):Prop:=((v18)=true→(InR .i64 (i_-1))∧(((e2.1==7))=true→∃b30:Bool,b30=((decide (e2.2.2.2.1<0))||(decide (e2.2.2.2.2.1<e2.2.2.2.1)))∧(((b30||(decide (255<e2.2.2.2.2.1))))=true→r_=(-1))∧(((b30||(decide (255<e2.2.2.2.2.1))))=false→(z8.j1 (n_) l_ i_ r_ e2) (e2.1,i_-1,0,e2.2.2.2.1,e2.2.2.2.2.1,(0#256),([]:Str))))∧(((e2.1==7))=false→(z8.j1 (n_) l_ i_ r_ e2) (e2.1,i_-1,0,0,0,(0#256),([]:Str))))∧((v18)=false→(((e2.1==4))=true→(z8.j2 (n_) l_ i_ r_ e2) (e2.1==4))∧(((e2.1==4))=false→(z8.j2 (n_) l_ i_ r_ e2) (e2.1==5)))
def z8.n:Nat→(List SNode)→Int→Int→Prop
 | 0,_,_,_=>False
 | k_+1,l_,i_,r_=>((decide (i_<0))=true→r_=(-1))∧((decide (i_<0))=false→∃e2:SNode,at? l_ i_=some e2∧(((e2.1==1))=true→(((e2 != (e2.1,0,0,0,0,(0#256),([]:Str))))=true→r_=(-1))∧(((e2 != (e2.1,0,0,0,0,(0#256),([]:Str))))=false→r_=i_))∧(((e2.1==1))=false→(((e2.1==2))=true→∃b10:Bool,b10=(e2 != (e2.1,0,0,0,0,e2.2.2.2.2.2.1,([]:Str)))∧((b10)=true→r_=(-1))∧((b10)=false→r_=i_))∧(((e2.1==2))=false→(((e2.1==3))=true→∃r12:Bool,zcm e2.2.2.2.2.2.2 r12∧(((!r12))=true→r_=(-1))∧(((!r12))=false→∃b15:Bool,b15=(e2 != (e2.1,0,0,0,0,(0#256),e2.2.2.2.2.2.2))∧((b15)=true→r_=(-1))∧((b15)=false→r_=i_)))∧(((e2.1==3))=false→(((e2.1==6))=true→(z8.j3 (z8.n k_) l_ i_ r_ e2) (e2.1==6))∧(((e2.1==6))=false→(((e2.1==7))=true→(z8.j3 (z8.n k_) l_ i_ r_ e2) (e2.1==7))∧(((e2.1==7))=false→(((e2.1==8))=true→(z8.j3 (z8.n k_) l_ i_ r_ e2) (e2.1==8))∧(((e2.1==8))=false→(z8.j3 (z8.n k_) l_ i_ r_ e2) (e2.1==9))))))))
def z8 (l_:(List SNode)) (i_:Int) (r_:Int):Prop:=∃k_,z8.n k_ l_ i_ r_
def zjz (d_:SDesc) (r_:Bool):Prop:=(((decide (0<(d_.length:Int)))=true)→InR .i64 ((d_.length:Int)-1))∧∃r2:Int,(((decide (0<(d_.length:Int)))=true)→z8 d_ ((d_.length:Int)-1) r2)∧r_=((decide (0<(d_.length:Int)))&&(r2==0))
def zbz.j1 (r_:Bool):Prop:=r_=false
def zbz.l1 (d_:SDesc) (r_:Bool) (X1:Prop):Nat→Int→Prop
 | 0,_=>False
 | k_0+1,i3=>((decide (i3<(d_.length:Int)))=true→∃e9:SNode,at? d_ i3=some e9∧∃e11:SNode,((((e9.1==8))=false)→at? d_ i3=some e11)∧((((e9.1==8)||(e11.1==9)))=true→r_=true)∧((((e9.1==8)||(e11.1==9)))=false→(InR .i64 (i3+1))∧zbz.l1 d_ r_ X1 k_0 (i3+1)))∧((decide (i3<(d_.length:Int)))=false→X1)
def zbz (d_:SDesc) (r_:Bool):Prop:=∃k4,zbz.l1 d_ r_ (zbz.j1 r_) k4 0
def zg8 (d_:SDesc) (ev_:SDesc) (nv_:Int) (r_:Int):Prop:=∃r2:Bool,zbz d_ r2∧∃r4:Bool,(((r2)=false)→zbz ev_ r4)∧(((r2||r4))=true→r_=(min nv_ 10))∧(((r2||r4))=false→r_=nv_)
def zq.j1 (i_:Int) (r_:Int) (l2:(List Int)):Prop:=∃e5:Int,at? l2 i_=some e5∧r_=e5
def zq.j2 (L1_:(List Int)→Int→Prop) (l7:(List Int)) (k9:Int) (w20:Int):Prop:=(l7.length+[(min 2 w20)].length≤2147483648)∧(InR .i64 (k9+1))∧L1_ (l7++[(min 2 w20)]) (k9+1)
def zq.j3 (L2_:Int→Int→Prop) (w37:Int) (t38:Int) (p46:Int):Prop:=(InR .i64 (w37+p46))∧(InR .i64 (t38+1))∧L2_ (min 2 (w37+p46)) (t38+1)
def zq.l3 (l7:(List Int)) (e15:SNode) (t38:Int) (X3:Int→Prop):Nat→Int→Int→Prop
 | 0,_,_=>False
 | k_0+1,p51,m52=>((decide (m52<t38))=true→∃e59:Int,at? l7 e15.2.1=some e59∧(InR .i64 (p51*e59))∧(InR .i64 (m52+1))∧zq.l3 l7 e15 t38 X3 k_0 (min 2 (p51*e59)) (m52+1))∧((decide (m52<t38))=false→X3 p51)
def zq.l2 (l7:(List Int)) (e15:SNode) (X2:Int→Prop):Nat→Int→Int→Prop
 | 0,_,_=>False
 | k_0+1,w37,t38=>((decide (t38≤e15.2.2.2.2.1))=true→∃k53,zq.l3 l7 e15 t38 (zq.j3 (zq.l2 l7 e15 X2 k_0) w37 t38) k53 1 0)∧((decide (t38≤e15.2.2.2.2.1))=false→X2 w37)
def zq.l1 (d_:SDesc) (i_:Int) (X1:(List Int)→Prop):Nat→(List Int)→Int→Prop
 | 0,_,_=>False
 | k_0+1,l7,k9=>((decide (k9≤i_))=true→∃e15:SNode,at? d_ k9=some e15∧(((e15.1==1))=true→(zq.j2 (zq.l1 d_ i_ X1 k_0) l7 k9) 1)∧(((e15.1==1))=false→(((e15.1==4))=true→∃e25:Int,at? l7 e15.2.1=some e25∧∃e27:Int,at? l7 e15.2.2.1=some e27∧(InR .i64 (e25*e27))∧(zq.j2 (zq.l1 d_ i_ X1 k_0) l7 k9) (e25*e27))∧(((e15.1==4))=false→(((e15.1==5))=true→∃e30:Int,at? l7 e15.2.1=some e30∧∃e32:Int,at? l7 e15.2.2.1=some e32∧(InR .i64 (e30+e32))∧(zq.j2 (zq.l1 d_ i_ X1 k_0) l7 k9) (e30+e32))∧(((e15.1==5))=false→(((e15.1==6))=true→∃e35:Int,at? l7 e15.2.1=some e35∧((decide (0<e35))=true→(zq.j2 (zq.l1 d_ i_ X1 k_0) l7 k9) 2)∧((decide (0<e35))=false→(zq.j2 (zq.l1 d_ i_ X1 k_0) l7 k9) 1))∧(((e15.1==6))=false→(((e15.1==7))=true→∃k39,zq.l2 l7 e15 (zq.j2 (zq.l1 d_ i_ X1 k_0) l7 k9) k39 0 e15.2.2.2.1)∧(((e15.1==7))=false→(zq.j2 (zq.l1 d_ i_ X1 k_0) l7 k9) 0))))))∧((decide (k9≤i_))=false→X1 l7)
def zq (d_:SDesc) (i_:Int) (r_:Int):Prop:=∃k10,zq.l1 d_ i_ (zq.j1 i_ r_) k10 ([]:(List Int)) 0
def zb4.j1 (r_:(Int × Bool)):Prop:=r_=(0,false)
def zb4.l1 (d_:SDesc) (r_:(Int × Bool)) (X1:Prop):Nat→Int→Prop
 | 0,_=>False
 | k_0+1,i3=>((decide (i3<(d_.length:Int)))=true→∃e9:SNode,at? d_ i3=some e9∧∃e11:SNode,(((((e9.1==6)||(e9.1==7)))=true)→at? d_ i3=some e11)∧∃r13:Int,(((((e9.1==6)||(e9.1==7)))=true)→zq d_ e11.2.1 r13)∧(((((e9.1==6)||(e9.1==7))&&(r13 != 0)))=true→r_=(i3,true))∧(((((e9.1==6)||(e9.1==7))&&(r13 != 0)))=false→(InR .i64 (i3+1))∧zb4.l1 d_ r_ X1 k_0 (i3+1)))∧((decide (i3<(d_.length:Int)))=false→X1)
def zb4 (d_:SDesc) (r_:(Int × Bool)):Prop:=∃k4,zb4.l1 d_ r_ (zb4.j1 r_) k4 0
def zgw (d_:SDesc) (r_:Bool):Prop:=∃r2:Bool,zjz d_ r2∧(((!r2))=true→r_=false)∧(((!r2))=false→∃r4:(Int × Bool),zb4 d_ r4∧r_=(!r4.2))
def ze4 (w_:(List Int)) (r_:(List Int)):Prop:=(InR .i64 ((w_.length:Int)+1))∧(0≤((w_.length:Int)+1)∧((w_.length:Int)+1)≤16777216)∧r_=(List.replicate ((w_.length:Int)+1:Int).toNat 0)
def zb2.j1 (r_:(List Int)) (out5:(List Int)):Prop:=r_=out5
def zb2.l1 (b_:(List Int)) (times_:Int) (X1:(List Int)→Prop):Nat→(List Int)→Int→Prop
 | 0,_,_=>False
 | k_0+1,out8,i10=>((decide (i10<(b_.length:Int)))=true→∃e16:Int,at? out8 i10=some e16∧∃e18:Int,at? b_ i10=some e18∧(InR .i64 (times_*e18))∧(InR .i64 (e16+(times_*e18)))∧∃e22:Int,at? out8 i10=some e22∧(InR .i64 (i10+1))∧zb2.l1 b_ times_ X1 k_0 (out8.set (i10:Int).toNat (min 2 (e16+(times_*e18)))) (i10+1))∧((decide (i10<(b_.length:Int)))=false→X1 out8)
def zb2 (a_:(List Int)) (b_:(List Int)) (times_:Int) (r_:(List Int)):Prop:=(([]:(List Int)).length+a_.length≤2147483648)∧∃k11,zb2.l1 b_ times_ (zb2.j1 r_) k11 (([]:(List Int))++a_) 0
def ref12_through.j1 (r_:(List Int)) (out5:(List Int)):Prop:=r_=out5
def ref12_through.l1 (n_:SDesc→Int→(List Int)→Int→(List Int)→Prop) (d_:SDesc) (i_:Int) (w_:(List Int)) (a_:(List Int)) (X1:(List Int)→Prop):Nat→(List Int)→Int→Prop
 | 0,_,_=>False
 | k_0+1,out8,k10=>((decide (k10<(a_.length:Int)))=true→∃e16:Int,at? a_ k10=some e16∧((decide (0<e16))=true→∃r18:(List Int),n_ d_ i_ w_ k10 r18∧∃e20:Int,at? a_ k10=some e20∧∃r22:(List Int),zb2 out8 r18 e20 r22∧(InR .i64 (k10+1))∧ref12_through.l1 n_ d_ i_ w_ a_ X1 k_0 r22 (k10+1))∧((decide (0<e16))=false→(InR .i64 (k10+1))∧ref12_through.l1 n_ d_ i_ w_ a_ X1 k_0 out8 (k10+1)))∧((decide (k10<(a_.length:Int)))=false→X1 out8)
def ref12_through.b (n_:SDesc→Int→(List Int)→Int→(List Int)→Prop) (d_:SDesc) (i_:Int) (w_:(List Int)) (a_:(List Int)) (r_:(List Int)):Prop:=∃r1:(List Int),ze4 w_ r1∧∃k11,ref12_through.l1 n_ d_ i_ w_ a_ (ref12_through.j1 r_) k11 r1 0
def ref12_times.j1 (r_:(List Int)) (out11:(List Int)):Prop:=r_=out11
def ref12_times.j2 (L1_:(List Int)→(List Int)→Int→Prop) (t18:Int) (out27:(List Int)) (next36:(List Int)):Prop:=(InR .i64 (t18+1))∧L1_ next36 out27 (t18+1)
def ref12_times.l2 (n_:SDesc→Int→(List Int)→Int→(List Int)→Prop) (d_:SDesc) (i_:Int) (w_:(List Int)) (now14:(List Int)) (X2:(List Int)→Prop):Nat→(List Int)→Int→Prop
 | 0,_,_=>False
 | k_0+1,next41,k43=>((decide (k43<(now14.length:Int)))=true→∃e50:Int,at? now14 k43=some e50∧((decide (0<e50))=true→∃r52:(List Int),n_ d_ i_ w_ k43 r52∧∃e57:Int,at? r52 k43=some e57∧∃e59:Int,at? now14 k43=some e59∧∃r61:(List Int),zb2 next41 (r52.set (k43:Int).toNat 0) e59 r61∧(InR .i64 (k43+1))∧ref12_times.l2 n_ d_ i_ w_ now14 X2 k_0 r61 (k43+1))∧((decide (0<e50))=false→(InR .i64 (k43+1))∧ref12_times.l2 n_ d_ i_ w_ now14 X2 k_0 next41 (k43+1)))∧((decide (k43<(now14.length:Int)))=false→X2 next41)
def ref12_times.j3 (n_:SDesc→Int→(List Int)→Int→(List Int)→Prop) (L1_:(List Int)→(List Int)→Int→Prop) (d_:SDesc) (i_:Int) (w_:(List Int)) (hi_:Int) (r_:(List Int)) (now14:(List Int)) (t18:Int) (out27:(List Int)):Prop:=(((t18==hi_))=true→(ref12_times.j1 r_) out27)∧(((t18==hi_))=false→∃r31:(List Int),ze4 w_ r31∧∃k44,ref12_times.l2 (n_) d_ i_ w_ now14 (ref12_times.j2 (L1_) t18 out27) k44 r31 0)
def ref12_times.l1 (n_:SDesc→Int→(List Int)→Int→(List Int)→Prop) (d_:SDesc) (i_:Int) (w_:(List Int)) (lo_:Int) (hi_:Int) (r_:(List Int)) (X1:(List Int)→Prop):Nat→(List Int)→(List Int)→Int→Prop
 | 0,_,_,_=>False
 | k_0+1,now14,out16,t18=>(InR .i64 ((w_.length:Int)+1))∧((decide (t18≤(w_.length:Int)+1))=true→((decide (lo_≤t18))=true→∃r67:(List Int),zb2 out16 now14 1 r67∧(ref12_times.j3 (n_) (ref12_times.l1 n_ d_ i_ w_ lo_ hi_ r_ X1 k_0) d_ i_ w_ hi_ r_ now14 t18) r67)∧((decide (lo_≤t18))=false→(ref12_times.j3 (n_) (ref12_times.l1 n_ d_ i_ w_ lo_ hi_ r_ X1 k_0) d_ i_ w_ hi_ r_ now14 t18) out16))∧((decide (t18≤(w_.length:Int)+1))=false→X1 out16)
def ref12_times.b (n_:SDesc→Int→(List Int)→Int→(List Int)→Prop) (d_:SDesc) (i_:Int) (w_:(List Int)) (from_:Int) (lo_:Int) (hi_:Int) (r_:(List Int)):Prop:=∃r1:(List Int),ze4 w_ r1∧∃e4:Int,at? r1 from_=some e4∧∃r6:(List Int),ze4 w_ r6∧∃k19,ref12_times.l1 n_ d_ i_ w_ lo_ hi_ r_ (ref12_times.j1 r_) k19 (r1.set (from_:Int).toNat 1) r6 0
def zce.n:Nat→SDesc→Int→(List Int)→Int→(List Int)→Prop
 | 0,_,_,_,_,_=>False
 | k_+1,d_,i_,w_,from_,r_=>∃e1:SNode,at? d_ i_=some e1∧∃r4:(List Int),ze4 w_ r4∧(((e1.1==1))=true→∃e9:Int,at? r4 from_=some e9∧r_=(r4.set (from_:Int).toNat 1))∧(((e1.1==1))=false→(((e1.1==2))=true→∃e11:Int,(((decide (from_<(w_.length:Int)))=true)→at? w_ from_=some e11)∧∃r13:Bool,(((decide (from_<(w_.length:Int)))=true)→zc0 e1.2.2.2.2.2.1 e11 r13)∧((((decide (from_<(w_.length:Int)))&&r13))=true→(InR .i64 (from_+1))∧∃e16:Int,at? r4 (from_+1)=some e16∧r_=(r4.set (from_+1:Int).toNat 1))∧((((decide (from_<(w_.length:Int)))&&r13))=false→r_=r4))∧(((e1.1==2))=false→(((e1.1==3))=true→(InR .i64 (from_+(e1.2.2.2.2.2.2.length:Int)))∧∃b19:Bool,b19=(decide (from_+(e1.2.2.2.2.2.2.length:Int)≤(w_.length:Int)))∧(((b19)=true)→InR .i64 (from_+(e1.2.2.2.2.2.2.length:Int)))∧(((b19)=true)→(0:Int)≤from_∧from_≤(from_+(e1.2.2.2.2.2.2.length:Int))∧(from_+(e1.2.2.2.2.2.2.length:Int))≤(w_.length:Int))∧∃b23:Bool,b23=((strB ((w_.take (from_+(e1.2.2.2.2.2.2.length:Int):Int).toNat).drop (from_:Int).toNat))==e1.2.2.2.2.2.2)∧(((b19&&b23))=true→(InR .i64 (from_+(e1.2.2.2.2.2.2.length:Int)))∧∃e26:Int,at? r4 (from_+(e1.2.2.2.2.2.2.length:Int))=some e26∧r_=(r4.set (from_+(e1.2.2.2.2.2.2.length:Int):Int).toNat 1))∧(((b19&&b23))=false→r_=r4))∧(((e1.1==3))=false→(((e1.1==4))=true→∃r28:(List Int),zce.n k_ d_ e1.2.1 w_ from_ r28∧∃r30:(List Int),ref12_through.b (zce.n k_) d_ e1.2.2.1 w_ r28 r30∧r_=r30)∧(((e1.1==4))=false→(((e1.1==5))=true→∃r35:(List Int),zce.n k_ d_ e1.2.1 w_ from_ r35∧∃r37:(List Int),zce.n k_ d_ e1.2.2.1 w_ from_ r37∧∃r39:(List Int),zb2 r35 r37 1 r39∧r_=r39)∧(((e1.1==5))=false→(((e1.1==6))=true→∃r44:(List Int),ref12_times.b (zce.n k_) d_ e1.2.1 w_ from_ 0 (-1) r44∧r_=r44)∧(((e1.1==6))=false→(((e1.1==7))=true→∃r49:(List Int),ref12_times.b (zce.n k_) d_ e1.2.1 w_ from_ e1.2.2.2.1 e1.2.2.2.2.1 r49∧r_=r49)∧(((e1.1==7))=false→(((e1.1==8))=true→((decide (from_<(w_.length:Int)))=true→(InR .i64 (from_+1))∧∃e55:Int,at? w_ from_=some e55∧(InR .i64 ((from_+1)+e55))∧((decide ((from_+1)+e55≤(w_.length:Int)))=true→((0:Int)≤((from_+1)+e55)∧((from_+1)+e55)≤(w_.length:Int))∧(InR .i64 (from_+1))∧∃r60:(List Int),zce.n k_ d_ e1.2.1 (w_.take ((from_+1)+e55:Int).toNat) (from_+1) r60∧∃e62:Int,at? r60 ((from_+1)+e55)=some e62∧∃e64:Int,at? r4 ((from_+1)+e55)=some e64∧r_=(r4.set ((from_+1)+e55:Int).toNat e62))∧((decide ((from_+1)+e55≤(w_.length:Int)))=false→r_=r4))∧((decide (from_<(w_.length:Int)))=false→r_=r4))∧(((e1.1==8))=false→(((e1.1==9))=true→(InR .i64 (from_+1))∧((decide (from_+1<(w_.length:Int)))=true→(InR .i64 (from_+2))∧∃e68:Int,at? w_ from_=some e68∧(InR .i64 (256*e68))∧(InR .i64 ((from_+2)+(256*e68)))∧(InR .i64 (from_+1))∧∃e73:Int,at? w_ (from_+1)=some e73∧(InR .i64 (((from_+2)+(256*e68))+e73))∧∃b76:Bool,b76=(decide (((from_+2)+(256*e68))+e73≤(w_.length:Int)))∧((b76)=true→((0:Int)≤(((from_+2)+(256*e68))+e73)∧(((from_+2)+(256*e68))+e73)≤(w_.length:Int))∧(InR .i64 (from_+2))∧∃r80:(List Int),zce.n k_ d_ e1.2.1 (w_.take (((from_+2)+(256*e68))+e73:Int).toNat) (from_+2) r80∧∃e82:Int,at? r80 (((from_+2)+(256*e68))+e73)=some e82∧∃e84:Int,at? r4 (((from_+2)+(256*e68))+e73)=some e84∧r_=(r4.set (((from_+2)+(256*e68))+e73:Int).toNat e82))∧((b76)=false→r_=r4))∧((decide (from_+1<(w_.length:Int)))=false→r_=r4))∧(((e1.1==9))=false→r_=r4)))))))))
def zce (d_:SDesc) (i_:Int) (w_:(List Int)) (from_:Int) (r_:(List Int)):Prop:=∃k_,zce.n k_ d_ i_ w_ from_ r_
def zhw (d_:SDesc) (w_:(List Int)) (r_:Int):Prop:=(InR .i64 ((d_.length:Int)-1))∧∃r2:(List Int),zce d_ ((d_.length:Int)-1) w_ 0 r2∧∃e4:Int,at? r2 (w_.length:Int)=some e4∧r_=e4
def zdt (x_:SItem) (y_:SItem) (r_:Int):Prop:=∃r1:Int,zcl x_.1 y_.1 r1∧∃r3:Int,zcl x_.2.1 y_.2.1 r3∧∃r5:Int,zcl x_.2.2.1 y_.2.2.1 r5∧∃r7:Int,zcl x_.2.2.2 y_.2.2.2 r7∧∃r9:Int,zcp [r1,r3,r5,r7] r9∧r_=r9
def zd2 (a_:(List SItem)) (b_:(List SItem)) (r_:Int):Prop:=∃r2:Int,zcl (a_.length:Int) (b_.length:Int) r2∧(((r2 != 0))=true→r_=r2)∧(((r2 != 0))=false→∃r4:Int,zf a_ b_ (fun q_=>zdt q_.1 q_.2.1 q_.2.2) r4∧r_=r4)
def zcn.j1 (r_:((List SItem) × Bool)) (out5:(List SItem)):Prop:=r_=(out5,true)
def zcn.l1 (r1:(List SItem)) (r_:((List SItem) × Bool)) (X1:(List SItem)→Prop):Nat→(List SItem)→Int→Prop
 | 0,_,_=>False
 | k_0+1,out8,v10=>((decide (v10<(r1.length:Int)))=true→∃e16:SItem,at? out8 v10=some e16∧(((e16.1 != 5))=true→(InR .i64 (v10+1))∧zcn.l1 r1 r_ X1 k_0 out8 (v10+1))∧(((e16.1 != 5))=false→((decide (e16.2.2.1≤0))=true→r_=(([]:(List SItem)),false))∧((decide (e16.2.2.1≤0))=false→∃e23:SItem,at? out8 v10=some e23∧(InR .i64 (e23.2.2.1-1))∧∃e26:SItem,at? out8 v10=some e26∧(InR .i64 (v10+1))∧zcn.l1 r1 r_ X1 k_0 (out8.set (v10:Int).toNat (e26.1,e26.2.1,e23.2.2.1-1,e26.2.2.2)) (v10+1))))∧((decide (v10<(r1.length:Int)))=false→X1 out8)
def zcn (s_:(List SItem)) (r_:((List SItem) × Bool)):Prop:=∃r1:(List SItem),zb1 s_ r1∧∃k11,zcn.l1 r1 r_ (zcn.j1 r_) k11 r1 0
def zj6 (d_:SDesc) (r_:(List SItem)):Prop:=(InR .i64 ((d_.length:Int)-1))∧r_=[(1,(d_.length:Int)-1,0,0)]
def zkw (d_:SDesc) (s_:(List SItem)) (r_:Bool):Prop:=((((s_.length:Int)==0))=true→r_=true)∧((((s_.length:Int)==0))=false→∃e3:SItem,at? s_ 0=some e3∧(((e3.1==1))=true→∃e6:SNode,at? d_ e3.2.1=some e6∧∃e8:Bool,(((decide (e6.1<10))=true)→at? gdat2 e6.1=some e8)∧r_=((decide (e6.1<10))&&e8))∧(((e3.1==1))=false→(((e3.1==3))=true→(((e3.1==3))=true→r_=true)∧(((e3.1==3))=false→r_=false))∧(((e3.1==3))=false→(((e3.1==4))=true→r_=true)∧(((e3.1==4))=false→r_=false))))
def zco (rest_:(List SItem)) (list_:(List SItem)) (r_:(List SItem)):Prop:=∃r1:(List SItem),zh [list_,rest_] r1∧r_=r1
def ze7 (i_:Int) (r_:SItem):Prop:=r_=(1,i_,0,0)
def zc2.j1 (r_:(List (List SItem))) (out24:(List (List SItem))):Prop:=r_=out24
def zc2.j2 (s_:(List SItem)) (r_:(List (List SItem))) (e2:SItem) (e6:SNode) (out17:(List (List SItem))):Prop:=((decide (0<e2.2.2.2))=true→∃r27:SItem,ze7 e6.2.1 r27∧(InR .i64 (e2.2.2.1-1))∧(InR .i64 (e2.2.2.2-1))∧∃r31:(List SItem),zco (s_.drop (1:Int).toNat) [r27,(e2.1,e2.2.1,(max (e2.2.2.1-1) 0),e2.2.2.2-1)] r31∧(out17.length+[r31].length≤2147483648)∧(zc2.j1 r_) (out17++[r31]))∧((decide (0<e2.2.2.2))=false→(zc2.j1 r_) out17)
def zc2 (d_:SDesc) (s_:(List SItem)) (r_:(List (List SItem))):Prop:=∃e2:SItem,at? s_ 0=some e2∧((0:Int)≤1∧1≤(s_.length:Int))∧∃e6:SNode,at? d_ e2.2.1=some e6∧((((e2.1==5)&&(e2.2.2.1==0)))=true→∃r11:(List SItem),zco (s_.drop (1:Int).toNat) ([]:(List SItem)) r11∧r_=[r11])∧((((e2.1==5)&&(e2.2.2.1==0)))=false→(((e2.1==5))=true→r_=([]:(List (List SItem))))∧(((e2.1==5))=false→(((e2.1==2))=true→(((e2.2.2.1==0))=true→∃r35:(List SItem),zco (s_.drop (1:Int).toNat) ([]:(List SItem)) r35∧(([]:(List (List SItem))).length+[r35].length≤2147483648)∧(zc2.j2 s_ r_ e2 e6) (([]:(List (List SItem)))++[r35]))∧(((e2.2.2.1==0))=false→(zc2.j2 s_ r_ e2 e6) ([]:(List (List SItem)))))∧(((e2.1==2))=false→(((e6.1==1))=true→∃r42:(List SItem),zco (s_.drop (1:Int).toNat) ([]:(List SItem)) r42∧r_=[r42])∧(((e6.1==1))=false→(((e6.1==3))=true→∃r47:(List SItem),zco (s_.drop (1:Int).toNat) [(3,e2.2.1,0,0)] r47∧r_=[r47])∧(((e6.1==3))=false→(((e6.1==4))=true→∃r52:SItem,ze7 e6.2.1 r52∧∃r54:SItem,ze7 e6.2.2.1 r54∧∃r56:(List SItem),zco (s_.drop (1:Int).toNat) [r52,r54] r56∧r_=[r56])∧(((e6.1==4))=false→(((e6.1==5))=true→∃r61:SItem,ze7 e6.2.1 r61∧∃r63:(List SItem),zco (s_.drop (1:Int).toNat) [r61] r63∧∃r65:SItem,ze7 e6.2.2.1 r65∧∃r67:(List SItem),zco (s_.drop (1:Int).toNat) [r65] r67∧r_=[r63,r67])∧(((e6.1==5))=false→(((e6.1==6))=true→∃r72:(List SItem),zco (s_.drop (1:Int).toNat) ([]:(List SItem)) r72∧∃r74:SItem,ze7 e6.2.1 r74∧∃r76:(List SItem),zco (s_.drop (1:Int).toNat) [r74,e2] r76∧r_=[r72,r76])∧(((e6.1==6))=false→∃r81:(List SItem),zco (s_.drop (1:Int).toNat) [(2,e2.2.1,e6.2.2.2.1,e6.2.2.2.2.1)] r81∧r_=[r81]))))))))
def zlh (a_:SBranch) (b_:SBranch) (r_:Int):Prop:=∃r1:Int,zd2 a_.1 b_.1 r1∧r_=r1
def zj2 (nv_:SNode) (ahead_:Int) (r_:(List SItem)):Prop:=r_=[(1,nv_.2.1,0,0),(5,0,ahead_,0)]
def zhi (s_:Sstep_next) (r_:((List SItem) × Bool)):Prop:=(((s_.1.1==8))=true→∃r2:(List SItem),zj2 s_.1 s_.2.2 r2∧r_=(r2,true))∧(((s_.1.1==8))=false→(((s_.1.1==9))=true→r_=([(4,s_.2.1.2.1,s_.2.2,0)],true))∧(((s_.1.1==9))=false→∃r6:Bool,zf2 s_.1.2.2.2.2.2.1 s_.2.2 r6∧r_=(([]:(List SItem)),r6)))
def zhh (s_:Sstep_next) (r_:((List SItem) × Bool)):Prop:=(InR .i64 (s_.2.1.2.2.1+1))∧∃b4:Bool,b4=((s_.2.1.2.2.1+1)==(s_.1.2.2.2.2.2.2.length:Int))∧((b4)=true→∃c6:Int,zd9 s_.1.2.2.2.2.2.2 s_.2.1.2.2.1=some c6∧r_=(([]:(List SItem)),(c6==s_.2.2)))∧((b4)=false→∃c10:Int,zd9 s_.1.2.2.2.2.2.2 s_.2.1.2.2.1=some c10∧r_=([(s_.2.1.1,s_.2.1.2.1,s_.2.1.2.2.1+1,s_.2.1.2.2.2)],(c10==s_.2.2)))
def zhj (s_:Sstep_next) (r_:((List SItem) × Bool)):Prop:=(InR .i64 (256*s_.2.1.2.2.1))∧(InR .i64 ((256*s_.2.1.2.2.1)+s_.2.2))∧∃r3:(List SItem),zj2 s_.1 ((256*s_.2.1.2.2.1)+s_.2.2) r3∧r_=(r3,true)
def next_On_1 (a_:SBranch) (b_:SBranch) (r_:Int):Prop:=∃r1:Int,zd2 a_.1 b_.1 r1∧r_=r1
def dyn0 (f_:Option Nat) (x0_:Sstep_next) (r_:((List SItem) × Bool)):Prop:=(f_=some 238∧zhi x0_ r_)∨(f_=some 239∧zhh x0_ r_)∨(f_=some 236∧zhj x0_ r_)
def zld (d_:SDesc) (s_:(List SItem)) (cv_:Int) (r_:((List SItem) × Bool)):Prop:=((((s_.length:Int)==0))=true→r_=(([]:(List SItem)),false))∧((((s_.length:Int)==0))=false→((0:Int)≤1∧1≤(s_.length:Int))∧∃r3:((List SItem) × Bool),zcn (s_.drop (1:Int).toNat) r3∧∃e5:SItem,at? s_ 0=some e5∧((((!r3.2)||(!(zha gfm0 e5.1))))=true→r_=(([]:(List SItem)),false))∧((((!r3.2)||(!(zha gfm0 e5.1))))=false→∃e8:SItem,at? s_ 0=some e8∧∃e10:SNode,at? d_ e8.2.1=some e10∧∃e12:SItem,at? s_ 0=some e12∧∃r14:((List SItem) × Bool),dyn0 (zd4 gfm0 e5.1 none) (e10,e12,cv_) r14∧(((!r14.2))=true→r_=(([]:(List SItem)),false))∧(((!r14.2))=false→∃r17:(List SItem),zh [r14.1,r3.1] r17∧r_=(r17,true))))
def zbo.j1 (r_:(List SBranch)) (out12:(List SBranch)):Prop:=∃r15:(List SBranch),zkh out12 r15∧r_=r15
def zbo.l1 (many5:(List (Str × Int))) (out7:(List SBranch)) (X1:(List SBranch)→Prop):Nat→(List SBranch)→Int→Prop
 | 0,_,_=>False
 | k_0+1,out17,v19=>((decide (v19<(out7.length:Int)))=true→∃e26:SBranch,at? out17 v19=some e26∧∃r28:Str,zj7 e26.1 r28∧∃e30:SBranch,at? out17 v19=some e30∧(InR .i64 (v19+1))∧zbo.l1 many5 out7 X1 k_0 (out17.set (v19:Int).toNat (e30.1,(zd4 many5 r28 0))) (v19+1))∧((decide (v19<(out7.length:Int)))=false→X1 out17)
def zbo.j2 (r_:(List SBranch)) (many5:(List (Str × Int))) (out7:(List SBranch)):Prop:=∃k20,zbo.l1 many5 out7 (zbo.j1 r_) k20 out7 0
def zbo.j3 (L2_:(List (Str × Int))→(List SBranch)→Int→Prop) (many33:(List (Str × Int))) (v37:Int) (e44:SBranch) (r53:Str) (out56:(List SBranch)):Prop:=(InR .i64 ((zd4 many33 r53 0)+e44.2))∧(InR .i64 (v37+1))∧L2_ (zf4 many33 r53 (min ((zd4 many33 r53 0)+e44.2) 2)) out56 (v37+1)
def zbo.l2 (d_:SDesc) (cv_:Int) (r3:(List SBranch)) (X2:(List (Str × Int))→(List SBranch)→Prop):Nat→(List (Str × Int))→(List SBranch)→Int→Prop
 | 0,_,_,_=>False
 | k_0+1,many33,out35,v37=>((decide (v37<(r3.length:Int)))=true→∃e44:SBranch,at? r3 v37=some e44∧∃r49:((List SItem) × Bool),zld d_ e44.1 cv_ r49∧(((!r49.2))=true→(InR .i64 (v37+1))∧zbo.l2 d_ cv_ r3 X2 k_0 many33 out35 (v37+1))∧(((!r49.2))=false→∃r53:Str,zj7 r49.1 r53∧((((zd4 many33 r53 0)==0))=true→(out35.length+[(r49.1,0)].length≤2147483648)∧(zbo.j3 (zbo.l2 d_ cv_ r3 X2 k_0) many33 v37 e44 r53) (out35++[(r49.1,0)]))∧((((zd4 many33 r53 0)==0))=false→(zbo.j3 (zbo.l2 d_ cv_ r3 X2 k_0) many33 v37 e44 r53) out35)))∧((decide (v37<(r3.length:Int)))=false→X2 many33 out35)
def zbo (d_:SDesc) (s_:(List SItem)) (cv_:Int) (r_:(List SBranch)):Prop:=∃r3:(List SBranch),zfp d_ s_ r3∧∃k38,zbo.l2 d_ cv_ r3 (zbo.j2 r_) k38 ([]:(List (Str × Int))) ([]:(List SBranch)) 0
def zci.j1 (r_:Int):Prop:=r_=0
def zci.l1 (r2:(List SBranch)) (r_:Int) (X1:Prop):Nat→Int→Prop
 | 0,_=>False
 | k_0+1,v5=>((decide (v5<(r2.length:Int)))=true→∃e11:SBranch,at? r2 v5=some e11∧((((e11.1.length:Int)==0))=true→r_=e11.2)∧((((e11.1.length:Int)==0))=false→(InR .i64 (v5+1))∧zci.l1 r2 r_ X1 k_0 (v5+1)))∧((decide (v5<(r2.length:Int)))=false→X1)
def zci (d_:SDesc) (s_:(List SItem)) (r_:Int):Prop:=∃r2:(List SBranch),zfp d_ s_ r2∧∃k6,zci.l1 r2 r_ (zci.j1 r_) k6 0
def zbs.j1 (r_:(List Cl)) (out2:(List Cl)):Prop:=r_=out2
def zbs.l1 (X1:(List Cl)→Prop):Nat→(List Cl)→Int→Prop
 | 0,_,_=>False
 | k_0+1,out5,v7=>((decide (v7<256))=true→∃r13:Cl,zdq (v7 % 256) (v7 % 256) r13∧(out5.length+[r13].length≤2147483648)∧(InR .i64 (v7+1))∧zbs.l1 X1 k_0 (out5++[r13]) (v7+1))∧((decide (v7<256))=false→X1 out5)
def zbs  (r_:(List Cl)):Prop:=∃k8,zbs.l1 (zbs.j1 r_) k8 ([]:(List Cl)) 0
def zbh.j1 (r_:(List Cl)) (out4:(List Cl)):Prop:=r_=out4
def zbh.l1 (d_:SDesc) (r2:(List SBranch)) (X1:(List Cl)→Prop):Nat→(List Cl)→Int→Prop
 | 0,_,_=>False
 | k_0+1,out7,v9=>((decide (v9<(r2.length:Int)))=true→∃e15:SBranch,at? r2 v9=some e15∧((((e15.1.length:Int)==0))=true→(InR .i64 (v9+1))∧zbh.l1 d_ r2 X1 k_0 out7 (v9+1))∧((((e15.1.length:Int)==0))=false→∃e21:SItem,at? e15.1 0=some e21∧∃e26:SNode,at? d_ e21.2.1=some e26∧(((e21.1==3))=true→∃c31:Int,zd9 e26.2.2.2.2.2.2 e21.2.2.1=some c31∧∃c33:Int,zd9 e26.2.2.2.2.2.2 e21.2.2.1=some c33∧∃r35:Cl,zdq c31 c33 r35∧(out7.length+[r35].length≤2147483648)∧(InR .i64 (v9+1))∧zbh.l1 d_ r2 X1 k_0 (out7++[r35]) (v9+1))∧(((e21.1==3))=false→(((e26.1==2))=true→(out7.length+[e26.2.2.2.2.2.1].length≤2147483648)∧(InR .i64 (v9+1))∧zbh.l1 d_ r2 X1 k_0 (out7++[e26.2.2.2.2.2.1]) (v9+1))∧(((e26.1==2))=false→∃r43:(List Cl),zbs  r43∧(out7.length+r43.length≤2147483648)∧(InR .i64 (v9+1))∧zbh.l1 d_ r2 X1 k_0 (out7++r43) (v9+1)))))∧((decide (v9<(r2.length:Int)))=false→X1 out7)
def zbh (d_:SDesc) (s_:(List SItem)) (r_:(List Cl)):Prop:=∃r2:(List SBranch),zfp d_ s_ r2∧∃k10,zbh.l1 d_ r2 (zbh.j1 r_) k10 ([]:(List Cl)) 0
def zbv.j1 (r_:(List Cl)) (out2:(List Cl)):Prop:=r_=out2
def zbv.l1 (d_:SDesc) (l_:(List (List SItem))) (X1:(List Cl)→Prop):Nat→(List Cl)→Int→Prop
 | 0,_,_=>False
 | k_0+1,out5,v7=>((decide (v7<(l_.length:Int)))=true→∃e13:(List SItem),at? l_ v7=some e13∧∃r15:(List Cl),zbh d_ e13 r15∧((out5.length+r15.length)*32≤140737488355328)∧(InR .i64 (v7+1))∧zbv.l1 d_ l_ X1 k_0 (out5++r15) (v7+1))∧((decide (v7<(l_.length:Int)))=false→X1 out5)
def zbv (d_:SDesc) (l_:(List (List SItem))) (r_:(List Cl)):Prop:=∃k8,zbv.l1 d_ l_ (zbv.j1 r_) k8 ([]:(List Cl)) 0
def zc4.j1 (r_:(List Cl)) (out3:(List Cl)):Prop:=r_=out3
def zc4.l1 (l_:(List Cl)) (X1:(List Cl)→Prop):Nat→(List (Cl × Bool))→(List Cl)→Int→Prop
 | 0,_,_,_=>False
 | k_0+1,met6,out8,v10=>((decide (v10<(l_.length:Int)))=true→∃e17:Cl,at? l_ v10=some e17∧(((!(zd4 met6 e17 false)))=true→(out8.length+[e17].length≤2147483648)∧(InR .i64 (v10+1))∧zc4.l1 l_ X1 k_0 (zf4 met6 e17 true) (out8++[e17]) (v10+1))∧(((!(zd4 met6 e17 false)))=false→(InR .i64 (v10+1))∧zc4.l1 l_ X1 k_0 (zf4 met6 e17 true) out8 (v10+1)))∧((decide (v10<(l_.length:Int)))=false→X1 out8)
def zc4 (l_:(List Cl)) (r_:(List Cl)):Prop:=∃k11,zc4.l1 l_ (zc4.j1 r_) k11 ([]:(List (Cl × Bool))) ([]:(List Cl)) 0
def zjx (d_:SDesc) (l_:(List (List SItem))) (r_:(List Int)):Prop:=∃r1:(List Cl),zbv d_ l_ r1∧∃r3:(List Cl),zc4 r1 r3∧∃r5:(List Int),zcb r3 r5∧r_=r5
def zbb.j1 (r_:(List Int)) (out2:(List Int)):Prop:=∃r5:(List Int),zy out2 r5∧r_=r5
def zbb.l1 (l_:(List Smade_scantling_twice_two_search)) (X1:(List Int)→Prop):Nat→Int→(List Int)→Prop
 | 0,_,_=>False
 | k_0+1,i7,out8=>∃e14:Smade_scantling_twice_two_search,at? l_ i7=some e14∧((decide (0≤e14.2.1))=true→∃e17:Smade_scantling_twice_two_search,at? l_ i7=some e17∧(out8.length+[e17.2.2].length≤2147483648)∧∃e21:Smade_scantling_twice_two_search,at? l_ i7=some e21∧zbb.l1 l_ X1 k_0 e21.2.1 (out8++[e17.2.2]))∧((decide (0≤e14.2.1))=false→X1 out8)
def zbb (l_:(List Smade_scantling_twice_two_search)) (i_:Int) (r_:(List Int)):Prop:=∃k10,zbb.l1 l_ (zbb.j1 r_) k10 i_ ([]:(List Int))
def zg.j1 (r_:SFound_scantling_twice_two_search) (v10:SFound_scantling_twice_two_search) (list11:(List Smade_scantling_twice_two_search)):Prop:=r_=((1,[],[],0,0,0,(list11.length:Int)),([],[],false))
def zg.j2 (L1_:SFound_scantling_twice_two_search→(List Smade_scantling_twice_two_search)→(List (Str × Bool))→Int→Prop) (v15:SFound_scantling_twice_two_search) (i20:Int) (list44:(List Smade_scantling_twice_two_search)) (seen46:(List (Str × Bool))):Prop:=(InR .i64 (i20+1))∧L1_ v15 list44 seen46 (i20+1)
def zg.l2 (s_:SSpace_scantling_twice_two_search) (i20:Int) (r42:(List SOn_scantling_twice_two_search)) (X2:(List Smade_scantling_twice_two_search)→(List (Str × Bool))→Prop):Nat→(List Smade_scantling_twice_two_search)→(List (Str × Bool))→Int→Prop
 | 0,_,_,_=>False
 | k_0+1,list53,seen55,v57=>((decide (v57<(r42.length:Int)))=true→∃e66:SOn_scantling_twice_two_search,at? r42 v57=some e66∧∃r72:Str,s_.2.1 (e66.2,r72)∧(((!(zd4 seen55 r72 false)))=true→(list53.length+[(e66.2,i20,e66.1)].length≤2147483648)∧(InR .i64 (v57+1))∧zg.l2 s_ i20 r42 X2 k_0 (list53++[(e66.2,i20,e66.1)]) (zf4 seen55 r72 true) (v57+1))∧(((!(zd4 seen55 r72 false)))=false→(InR .i64 (v57+1))∧zg.l2 s_ i20 r42 X2 k_0 list53 seen55 (v57+1)))∧((decide (v57<(r42.length:Int)))=false→X2 list53 seen55)
def zg.l1 (s_:SSpace_scantling_twice_two_search) (budget_:Int) (r_:SFound_scantling_twice_two_search) (X1:SFound_scantling_twice_two_search→(List Smade_scantling_twice_two_search)→Prop):Nat→SFound_scantling_twice_two_search→(List Smade_scantling_twice_two_search)→(List (Str × Bool))→Int→Prop
 | 0,_,_,_,_=>False
 | k_0+1,v15,list16,seen18,i20=>((decide (i20<(list16.length:Int)))=true→((decide (budget_≤i20))=true→r_=((3,[],[],0,0,0,(max budget_ 0)),([],[],false)))∧((decide (budget_≤i20))=false→∃e30:Smade_scantling_twice_two_search,at? list16 i20=some e30∧∃r37:Bool,s_.2.2.2 (e30.1,r37)∧((r37)=true→∃r39:(List Int),zbb list16 i20 r39∧(InR .i64 (i20+1))∧r_=((2,r39,[],0,0,0,i20+1),e30.1))∧((r37)=false→∃r42:(List SOn_scantling_twice_two_search),s_.2.2.1 (e30.1,r42)∧∃k58,zg.l2 s_ i20 r42 (zg.j2 (zg.l1 s_ budget_ r_ X1 k_0) v15 i20) k58 list16 seen18 0)))∧((decide (i20<(list16.length:Int)))=false→X1 v15 list16)
def zg (s_:SSpace_scantling_twice_two_search) (budget_:Int) (r_:SFound_scantling_twice_two_search):Prop:=∃r7:Str,s_.2.1 (s_.1,r7)∧∃k21,zg.l1 s_ budget_ r_ (zg.j1 r_) k21 ((0,[],[],0,0,0,0),([],[],false)) [(s_.1,(-1),0)] (zf4 ([]:(List (Str × Bool))) r7 true) 0
def zgl (a_:(List SItem)) (b_:(List SItem)) (apart_:Bool) (r_:Stwo_twice):Prop:=∃r3:Int,zd2 a_ b_ r3∧((decide (0<r3))=true→r_=(b_,a_,apart_))∧((decide (0<r3))=false→r_=(a_,b_,apart_))
def zhr (x_:Stwo_twice) (r_:Int):Prop:=((x_.2.2)=true→r_=1)∧((x_.2.2)=false→r_=0)
def zh9 (x_:Stwo_twice) (y_:Stwo_twice) (r_:Int):Prop:=∃r1:Int,zd2 x_.1 y_.1 r1∧∃r3:Int,zd2 x_.2.1 y_.2.1 r3∧∃r5:Int,zhr x_ r5∧∃r7:Int,zhr y_ r7∧∃r9:Int,zcl r5 r7 r9∧∃r11:Int,zcp [r1,r3,r9] r11∧r_=r11
def zu.j1 (r_:(List Stwo_twice)) (out4:(List Stwo_twice)):Prop:=∃r7:(List Stwo_twice),zec out4 r7∧r_=r7
def zu.j2 (L1_:(List Stwo_twice)→Int→Prop) (v11:Int) (out25:(List Stwo_twice)):Prop:=(InR .i64 (v11+1))∧L1_ out25 (v11+1)
def zu.l2 (r1:(List SBranch)) (v11:Int) (e17:SBranch) (X2:(List Stwo_twice)→Prop):Nat→(List Stwo_twice)→Int→Prop
 | 0,_,_=>False
 | k_0+1,out29,v31=>∃b36:Bool,b36=(decide (v31<((r1.take (v11:Int).toNat).length:Int)))∧((b36)=true→∃e40:SBranch,at? (r1.take (v11:Int).toNat) v31=some e40∧∃r45:Stwo_twice,zgl e17.1 e40.1 true r45∧(out29.length+[r45].length≤2147483648)∧(InR .i64 (v31+1))∧zu.l2 r1 v11 e17 X2 k_0 (out29++[r45]) (v31+1))∧((b36)=false→X2 out29)
def zu.l1 (r1:(List SBranch)) (X1:(List Stwo_twice)→Prop):Nat→(List Stwo_twice)→Int→Prop
 | 0,_,_=>False
 | k_0+1,out9,v11=>((decide (v11<(r1.length:Int)))=true→∃e17:SBranch,at? r1 v11=some e17∧(out9.length+[(e17.1,e17.1,decide (1<e17.2))].length≤2147483648)∧((0:Int)≤v11∧v11≤(r1.length:Int))∧∃k32,zu.l2 r1 v11 e17 (zu.j2 (zu.l1 r1 X1 k_0) v11) k32 (out9++[(e17.1,e17.1,decide (1<e17.2))]) 0)∧((decide (v11<(r1.length:Int)))=false→X1 out9)
def zu.j3 (r_:(List Stwo_twice)) (out53:(List Stwo_twice)):Prop:=∃r56:(List Stwo_twice),zec out53 r56∧r_=r56
def zu.j4 (L3_:(List Stwo_twice)→Int→Prop) (v60:Int) (out70:(List Stwo_twice)):Prop:=(InR .i64 (v60+1))∧L3_ out70 (v60+1)
def zu.l4 (r1:(List SBranch)) (e66:SBranch) (X4:(List Stwo_twice)→Prop):Nat→(List Stwo_twice)→Int→Prop
 | 0,_,_=>False
 | k_0+1,out74,v76=>((decide (v76<(r1.length:Int)))=true→∃e83:SBranch,at? r1 v76=some e83∧∃r88:Stwo_twice,zgl e83.1 e66.1 true r88∧(out74.length+[r88].length≤2147483648)∧(InR .i64 (v76+1))∧zu.l4 r1 e66 X4 k_0 (out74++[r88]) (v76+1))∧((decide (v76<(r1.length:Int)))=false→X4 out74)
def zu.l3 (r1:(List SBranch)) (r51:(List SBranch)) (X3:(List Stwo_twice)→Prop):Nat→(List Stwo_twice)→Int→Prop
 | 0,_,_=>False
 | k_0+1,out58,v60=>((decide (v60<(r51.length:Int)))=true→∃e66:SBranch,at? r51 v60=some e66∧∃k77,zu.l4 r1 e66 (zu.j4 (zu.l3 r1 r51 X3 k_0) v60) k77 out58 0)∧((decide (v60<(r51.length:Int)))=false→X3 out58)
def zu (x_:Sof_twice) (t_:Stwo_twice) (cv_:Int) (r_:(List Stwo_twice)):Prop:=∃r1:(List SBranch),zbo x_ t_.1 cv_ r1∧(((!t_.2.2))=true→∃k12,zu.l1 r1 (zu.j1 r_) k12 ([]:(List Stwo_twice)) 0)∧(((!t_.2.2))=false→∃r51:(List SBranch),zbo x_ t_.2.1 cv_ r51∧∃k61,zu.l3 r1 r51 (zu.j3 r_) k61 ([]:(List Stwo_twice)) 0)
def z6.j1 (r_:(List SOn_scantling_twice_two_search)) (out4:(List SOn_scantling_twice_two_search)):Prop:=r_=out4
def z6.j2 (L1_:(List SOn_scantling_twice_two_search)→Int→Prop) (v9:Int) (out19:(List SOn_scantling_twice_two_search)):Prop:=(InR .i64 (v9+1))∧L1_ out19 (v9+1)
def z6.l2 (e15:Int) (r17:(List Stwo_twice)) (X2:(List SOn_scantling_twice_two_search)→Prop):Nat→(List SOn_scantling_twice_two_search)→Int→Prop
 | 0,_,_=>False
 | k_0+1,out23,v25=>((decide (v25<(r17.length:Int)))=true→∃e31:Stwo_twice,at? r17 v25=some e31∧(out23.length+[(e15,e31)].length≤2147483648)∧(InR .i64 (v25+1))∧z6.l2 e15 r17 X2 k_0 (out23++[(e15,e31)]) (v25+1))∧((decide (v25<(r17.length:Int)))=false→X2 out23)
def z6.l1 (x_:Sof_twice) (t_:Stwo_twice) (r2:(List Int)) (X1:(List SOn_scantling_twice_two_search)→Prop):Nat→(List SOn_scantling_twice_two_search)→Int→Prop
 | 0,_,_=>False
 | k_0+1,out7,v9=>((decide (v9<(r2.length:Int)))=true→∃e15:Int,at? r2 v9=some e15∧∃r17:(List Stwo_twice),zu x_ t_ e15 r17∧∃k26,z6.l2 e15 r17 (z6.j2 (z6.l1 x_ t_ r2 X1 k_0) v9) k26 out7 0)∧((decide (v9<(r2.length:Int)))=false→X1 out7)
def z6 (x_:Sof_twice) (t_:Stwo_twice) (r_:(List SOn_scantling_twice_two_search)):Prop:=∃r2:(List Int),zjx x_ [t_.1,t_.2.1] r2∧∃k10,z6.l1 x_ t_ r2 (z6.j1 r_) k10 ([]:(List SOn_scantling_twice_two_search)) 0
def zee (x_:Sof_twice) (t_:Stwo_twice) (r_:Bool):Prop:=((t_.2.2)=true→∃r2:Int,zci x_ t_.1 r2∧∃r4:Int,(((decide (0<r2))=true)→zci x_ t_.2.1 r4)∧r_=((decide (0<r2))&&(decide (0<r4))))∧((t_.2.2)=false→∃r6:Int,zci x_ t_.1 r6∧r_=decide (1<r6))
def zgm (t_:Stwo_twice) (r_:Str):Prop:=∃r1:Str,zj7 t_.1 r1∧(r1.length+([124]:Str).length≤9223372036854775807)∧∃r4:Str,zj7 t_.2.1 r4∧((r1++([124]:Str)).length+r4.length≤9223372036854775807)∧((t_.2.2)=true→(((r1++([124]:Str))++r4).length+([33]:Str).length≤9223372036854775807)∧r_=((r1++([124]:Str))++r4)++([33]:Str))∧((t_.2.2)=false→r_=(r1++([124]:Str))++r4)
def zbt (d_:SDesc) (budget_:Int) (r_:SVerdict):Prop:=∃r4:(List SItem),zj6 d_ r4∧∃r6:SFound_scantling_twice_two_search,zg ((r4,r4,false),(fun q_=>zgm q_.1 q_.2),(fun q_=>z6 d_ q_.1 q_.2),(fun q_=>zee d_ q_.1 q_.2)) budget_ r6∧r_=r6.1
def zgy  (r_:Bool):Prop:=∃r1:Cl,zcz 0 255 r1∧∃r9:SDesc,ze5 5 [(2,0,0,0,0,r1,([]:Str))] [(3,0,0,0,0,(0#256),([97]:Str))] r9∧∃r15:SVerdict,zbt r9 20 r15∧∃r21:SDesc,ze5 4 r9 [(2,0,0,0,0,(0#256),([]:Str))] r21∧∃r23:SVerdict,zbt r21 20 r23∧∃r30:SVerdict,zbt [(2,0,0,0,0,r1,([]:Str))] 2 r30∧∃r36:Bool,((((r15.1==2))=true)→zcd r15.2.1 [97] r36)∧∃b38:Bool,b38=((((r15.1==2)&&r36)&&(r23.1==1))&&(r30.1==1))∧∃r40:SVerdict,((((b38&&(r30.2.2.2.2.2.2==2)))=true)→zbt [(2,0,0,0,0,r1,([]:Str))] 1 r40)∧∃r42:SVerdict,(((((b38&&(r30.2.2.2.2.2.2==2))&&(r40.1==3)))=true)→zbt [(2,0,0,0,0,r1,([]:Str))] (-1) r42)∧∃b44:Bool,b44=(((b38&&(r30.2.2.2.2.2.2==2))&&(r40.1==3))&&(r42.2.2.2.2.2.2==0))∧r_=b44
def zjm (d_:SDesc) (r_:Bool):Prop:=∃r1:Bool,zc5 d_ r1∧∃r3:Int,((((r1&&(decide ((d_.length:Int)≤16))))=true)→zm d_ r3)∧∃b5:Bool,b5=((r1&&(decide ((d_.length:Int)≤16)))&&(decide (r3≤60)))∧∃r7:Bool,(((b5)=true)→zgw d_ r7)∧r_=(b5&&r7)
def zf7 (d_:SDesc) (ev_:SDesc) (w_:(List Int)) (r_:Bool):Prop:=∃r2:Bool,zgy  r2∧∃r4:Bool,((((!r2))=false)→zjm d_ r4)∧∃r6:Bool,(((((!r2)||(!r4)))=false)→zjm ev_ r6)∧∃b8:Bool,b8=((((!r2)||(!r4))||(!r6))||(decide (7<(d_.length:Int))))∧∃b10:Bool,b10=((b8||(decide (7<(ev_.length:Int))))||(decide (8<(w_.length:Int))))∧((b10)=true→∃r12:Bool,zgy  r12∧r_=r12)∧((b10)=false→∃r14:Int,zg8 d_ ev_ 60 r14∧∃r16:SDesc,ze5 5 d_ ev_ r16∧∃r18:SVerdict,zbt r16 r14 r18∧∃r21:SDesc,ze5 4 d_ ev_ r21∧∃r23:SVerdict,zbt r21 r14 r23∧∃r27:Int,zhw d_ w_ r27∧∃r29:Int,zhw ev_ w_ r29∧((((r18.1==1))=true)→InR .i64 (r27+r29))∧((((r18.1==1)&&(decide (1<r27+r29))))=true→r_=false)∧((((r18.1==1)&&(decide (1<r27+r29))))=false→∃r34:SVerdict,((((r18.1==1))=true)→zbt d_ r14 r34)∧∃r36:Bool,((((((r18.1==1)&&(r34.1==2)))=false)∧(((r23.1==1)&&(r27==2)))=true)→count_Has ev_ ([]:(List Int)) r36)∧∃b38:Bool,b38=(((r18.1==1)&&(r34.1==2))||(((r23.1==1)&&(r27==2))&&r36))∧((b38)=true→r_=false)∧((b38)=false→∃r43:SDesc,ze5 4 [(1,0,0,0,0,(0#256),([]:Str))] d_ r43∧∃r45:SVerdict,zbt r43 r14 r45∧∃r49:SVerdict,zbt d_ r14 r49∧∃b53:Bool,b53=((r45.1==r49.1)&&((r45.2.1.length:Int)==(r49.2.1.length:Int)))∧r_=(((r45.1==3)||(r49.1==3))||b53))))
set_option maxRecDepth 100000
set_option maxHeartbeats 2000000
set_option synthInstance.maxSize 100000
set_option synthInstance.maxHeartbeats 200000
section
variable {u : Bool} [Dr u]
theorem ziy {x_:Int} {r_:Bool} (h:zeo x_ r_):Fn Tryz.prog 144 [(Pi x_)] (Rq (Pd.rep En.bool r_)):=by
 unfold zeo at h;refine zbn Tryz.func144 J Tryz.ntmps144 (by rfl) (by simp) fun s0 a L=>?_;refine rA 1 L fun a s L=>?_;refine rA 4 L fun a s L=>?_;subst h;exact wp_ret (zdr J L J)
theorem zc3 {x_:Int} {y_:Int} {r_:Int} (h:zcl x_ y_ r_):Fn Tryz.prog 113 [(Pi x_),(Pi y_)] (Rq (Pi r_)):=by
 unfold zcl at h;refine zbn Tryz.func113 J Tryz.ntmps113 (by rfl) (by simp) fun s0 a L=>?_;refine rA 1 L fun a s L=>?_;obtain ⟨r1,h2,h⟩:=h;refine ra 3 (p1 (ziy h2)) L fun a s L=>?_;obtain ⟨r3,h4,h⟩:=h;refine ra 3 (p1 (ziy h4)) L fun a s L=>?_;refine wp_seq_k fun K5 H5=>rA 1 L fun a s L=>?_;refine cn L h (fun h=>?_) fun h=>?_
 ·refine wp_seq_k fun K6 H6=>?_;refine rA 1 L fun a s L=>?_;refine cn L h (fun h=>?_) fun h=>?_
  ·refine rA 1 L fun a s L=>?_;subst h;exact wp_ret (zdr J L J)
  ·refine wp_skip (H6 _ _ ?_);refine rA 1 L fun a s L=>?_;subst h;exact wp_ret (zdr J L J)
 ·refine wp_skip (H5 _ _ ?_);refine wp_seq_k fun K7 H7=>rA 1 L fun a s L=>?_;refine cn L h (fun h=>?_) fun h=>?_
  ·refine rA 1 L fun a s L=>?_;subst h;exact wp_ret (zdr J L J)
  ·refine wp_skip (H7 _ _ ?_);refine wp_seq_k fun K8 H8=>rA 3 L fun a s L=>?_;refine cn L h (fun h=>?_) fun h=>?_
   ·refine rA 1 L fun a s L=>?_;subst h;exact wp_ret (zdr J L J)
   ·refine wp_skip (H8 _ _ ?_);refine wp_seq_k fun K9 H9=>rA 3 L fun a s L=>?_;refine cn L h (fun h=>?_) fun h=>?_
    ·refine rA 1 L fun a s L=>?_;subst h;exact wp_ret (zdr J L J)
    ·refine wp_skip (H9 _ _ ?_);refine rA 1 L fun a s L=>?_;subst h;exact wp_ret (zdr J L J)
theorem zcu {s1_:(List SItem)} {s2_:(List SItem)} {cmp_:(SItem × SItem × Int→Prop)} {r_:Int} (h:zf s1_ s2_ cmp_ r_):Fn Tryz.prog 114 [(Pd.rep (En.slice En.SItem) s1_),(Pd.rep (En.slice En.SItem) s2_),(Pd.rep EnF202 cmp_)] (Rq (Pi r_)):=by
 unfold zf at h;refine zbn Tryz.func114 J Tryz.ntmps114 (by rfl) (by simp) fun s0 a L=>?_;refine rA 1 L fun a s L=>?_;refine wp_seq_k fun K1 H1=>rA 3 L fun a s L=>?_;refine wp_block ?_;have J2:∀(a:Act) (s:St),Has N0 39 s0 a s [(0,(Pd.rep (En.slice En.SItem) s1_)),(1,(Pd.rep (En.slice En.SItem) s2_))]→((zf.j1 s1_ s2_ r_))→K1 a s.w:=by
  intro a s L h;unfold zf.j1 at h;show K1 a s.w;refine H1 _ _ (wp_seq_k fun K3 H3=>?_);refine rA 5 L fun a s L=>?_;refine cn L h (fun h=>?_) fun h=>?_
  ·refine rA 1 L fun a s L=>?_;subst h;exact wp_ret (zdr J L J)
  ·refine wp_skip (H3 _ _ ?_);refine rA 1 L fun a s L=>?_;subst h;exact wp_ret (zdr J L J)
 obtain ⟨k5,h⟩:=h;refine lpn (fun k6 a s=>∃(v4:Int),Has N0 39 s0 a s [(0,(Pd.rep (En.slice En.SItem) s1_)),(1,(Pd.rep (En.slice En.SItem) s2_)),(2,(Pd.rep EnF202 cmp_)),(11,(Pd.rep (En.slice En.SItem) s1_)),(12,(Pi (s1_.length:Int))),(13,(Pi v4))]∧zf.l1 s1_ s2_ cmp_ r_ (zf.j1 s1_ s2_ r_) k6 v4) k5 ⟨0,L.kk,h⟩ ?_;rintro k6 a s ⟨v4,L,h⟩ KL7 hKL7;unfold zf.l1 at h;refine rA 1 L fun a s L=>?_;refine wp_seq_k fun K8 H8=>cn L h (fun h=>?_) fun h=>?_
 ·refine wp_skip (H8 _ _ ?_);refine wp_seq_k fun K9 H9=>wp_block ?_;obtain ⟨e10,h11,h⟩:=h;refine rs (sl 3 (p1 h11) L fun a s L=>?_);refine zz En.SItem (z:=(0,0,0,0)) 8 L zga J J J J fun a s g12 hg_ L=>?_;refine sA 1 L fun a s L=>?_;refine sB 8 L fun s L=>?_;refine es (wp_seq_k fun K13 H13=>?_);refine rA 4 L fun a s L=>?_;refine cn L h (fun h=>?_) fun h=>?_
  ·refine rA 1 L fun a s L=>?_;subst h;exact wp_ret (zdr J L J)
  ·refine wp_skip (H13 _ _ ?_);obtain ⟨e14,h15,h⟩:=h;refine rs (sl 4 (p1 h15) L fun a s L=>?_);have lt_d17:=L.blt 8 rfl;refine zz En.SItem (z:=(0,0,0,0)) 9 L zga J J J J fun a s g16 hg_ L=>?_;have d17:=Dis.newg hg_ lt_d17;refine sB 9 L fun s L=>?_;refine es ?_;obtain ⟨r18,h19,h⟩:=h;refine rs (sA 3 L fun a s L=>?_);refine sv (zgq (q:=(e10,e14,r18)) op h19 opz (fun _ _ _ h_=>h_) J J) L fun a s L=>?_;refine sA 1 L fun a s L=>?_;refine es (rA 2 L fun a s L=>?_);refine cn L h (fun h=>?_) fun h=>?_
   ·refine rA 2 L fun a s L=>?_;subst h;exact wp_ret (zdr J L J)
   ·refine wp_skip (H9 _ _ ?_);obtain ⟨h20,h⟩:=h;refine rg (sA 2 L fun a s L=>?_);refine en' ?_;exact hKL7 a s ⟨(v4+1),L.kk,h⟩
 ·refine wp_exit ?_;exact J2 a s (L.kk) h
theorem zll {vals_:(List Int)} {r_:Int} (h:zcp vals_ r_):Fn Tryz.prog 116 [(Pd.rep (En.slice (En.int .i64)) vals_)] (Rq (Pi r_)):=by
 unfold zcp at h;refine zbn Tryz.func116 J Tryz.ntmps116 (by rfl) (by simp) fun s0 a L=>?_;refine rA 1 L fun a s L=>?_;refine rA 1 L fun a s L=>?_;refine wp_seq_k fun K1 H1=>rA 3 L fun a s L=>?_;refine wp_block ?_;have J2:∀(a:Act) (s:St),Has N0 18 s0 a s [(3,(Pi 0))]→((zcp.j1 r_))→K1 a s.w:=by
  intro a s L h;unfold zcp.j1 at h;show K1 a s.w;refine H1 _ _ (rA 2 L fun a s L=>?_);subst h;exact wp_ret (zdr J L J)
 obtain ⟨k4,h⟩:=h;refine lpn (fun k5 a s=>∃(v3:Int),Has N0 18 s0 a s [(3,(Pi 0)),(6,(Pd.rep (En.slice (En.int .i64)) vals_)),(7,(Pi (vals_.length:Int))),(8,(Pi v3))]∧zcp.l1 vals_ r_ (zcp.j1 r_) k5 v3) k4 ⟨0,L.kk,h⟩ ?_;rintro k5 a s ⟨v3,L,h⟩ KL6 hKL6;unfold zcp.l1 at h;refine rA 1 L fun a s L=>?_;refine wp_seq_k fun K7 H7=>cn L h (fun h=>?_) fun h=>?_
 ·refine wp_skip (H7 _ _ ?_);refine wp_seq_k fun K8 H8=>wp_block ?_;obtain ⟨e9,h10,h⟩:=h;refine ra 3 (p1 h10) L fun a s L=>?_;refine rA 3 L fun a s L=>?_;refine cn L h (fun h=>?_) fun h=>?_
  ·refine rA 2 L fun a s L=>?_;subst h;exact wp_ret (zdr J L J)
  ·refine wp_skip (H8 _ _ ?_);obtain ⟨h11,h⟩:=h;refine rg (sA 2 L fun a s L=>?_);refine en' ?_;exact hKL6 a s ⟨(v3+1),L.kk,h⟩
 ·refine wp_exit ?_;exact J2 a s (L.kk) h
theorem zme {x_:SItem} {y_:SItem} {r_:Int} (h:zdt x_ y_ r_):Fn Tryz.prog 115 [(Pd.rep En.SItem x_),(Pd.rep En.SItem y_)] (Rq (Pi r_)):=by
 unfold zdt at h;refine zbn Tryz.func115 J Tryz.ntmps115 (by rfl) (by simp) fun s0 a L=>?_;refine rA 3 L fun a s L=>?_;obtain ⟨r1,h2,r3,h4,r5,h6,r7,h8,r9,h10,h⟩:=h;refine wp_seq (rdx 22 (pp (zc3 h2) (pp (zc3 h4) (pp (zc3 h6) (pp (zc3 h8) (p1 (zll h10)))))) L fun a s L=>?_);refine sA 1 L fun a s L=>?_;refine es ?_;subst h;exact wp_ret (zdr J L J)
theorem zeg {a_:(List SItem)} {b_:(List SItem)} {r_:Int} (h:zd2 a_ b_ r_):Fn Tryz.prog 89 [(Pd.rep (En.slice En.SItem) a_),(Pd.rep (En.slice En.SItem) b_)] (Rq (Pi r_)):=by
 unfold zd2 at h;refine zbn Tryz.func89 J Tryz.ntmps89 (by rfl) (by simp) fun s0 a L=>?_;refine rA 1 L fun a s L=>?_;refine wp_seq_k fun K1 H1=>?_;obtain ⟨r2,h3,h⟩:=h;refine ra 6 (p1 (zc3 h3)) L fun a s L=>?_;refine rA 2 L fun a s L=>?_;refine cn L h (fun h=>?_) fun h=>?_
 ·refine rA 2 L fun a s L=>?_;subst h;exact wp_ret (zdr J L J)
 ·refine wp_skip (H1 _ _ ?_);obtain ⟨r4,h5,h⟩:=h;refine rs (sA 2 L fun a s L=>?_);refine sv (zdl (zcu h5) (xs:=[.tmp 14,.tmp 15,.func 115]) (.cons op (.cons op (.cons (o_q (Pd.rep EnF202 (fun q_=>zdt q_.1 q_.2.1 q_.2.2)) (o_fun (ze1 Tryz.func115 J (by rfl)) (fun q_ h_=>zme h_))) .nil))) J J) L fun a s L=>?_;refine sA 1 L fun a s L=>?_;refine es ?_;subst h;exact wp_ret (zdr J L J)
theorem zm4 {a_:SBranch} {b_:SBranch} {r_:Int} (h:zlh a_ b_ r_):Fn Tryz.prog 124 [(Pd.rep En.SBranch a_),(Pd.rep En.SBranch b_)] (Rq (Pi r_)):=by
 unfold zlh at h;refine zbn Tryz.func124 J Tryz.ntmps124 (by rfl) (by simp) fun s0 a L=>?_;refine rA 3 L fun a s L=>?_;obtain ⟨r1,h2,h⟩:=h;refine ra 6 (p1 (zeg h2)) L fun a s L=>?_;subst h;exact wp_ret (zdr J L J)
theorem next_On_1_ok {a_:SBranch} {b_:SBranch} {r_:Int} (h:next_On_1 a_ b_ r_):Fn Tryz.prog 110 [(Pd.rep En.SBranch a_),(Pd.rep En.SBranch b_)] (Rq (Pi r_)):=by
 unfold next_On_1 at h;refine zbn Tryz.func110 J Tryz.ntmps110 (by rfl) (by simp) fun s0 a L=>?_;refine rA 3 L fun a s L=>?_;obtain ⟨r1,h2,h⟩:=h;refine ra 6 (p1 (zeg h2)) L fun a s L=>?_;subst h;exact wp_ret (zdr J L J)
theorem zk3 {x_:Stwo_twice} {r_:Int} (h:zhr x_ r_):Fn Tryz.prog 122 [(Pd.rep En.Stwo_twice x_)] (Rq (Pi r_)):=by
 unfold zhr at h;refine zbn Tryz.func122 J Tryz.ntmps122 (by rfl) (by simp) fun s0 a L=>?_;refine rA 2 L fun a s L=>?_;refine wp_seq_k fun K1 H1=>rA 2 L fun a s L=>?_;refine cn L h (fun h=>?_) fun h=>?_
 ·refine rA 1 L fun a s L=>?_;subst h;exact wp_ret (zdr J L J)
 ·refine wp_skip (H1 _ _ ?_);refine rA 1 L fun a s L=>?_;subst h;exact wp_ret (zdr J L J)
theorem zm0 {x_:Stwo_twice} {y_:Stwo_twice} {r_:Int} (h:zh9 x_ y_ r_):Fn Tryz.prog 100 [(Pd.rep En.Stwo_twice x_),(Pd.rep En.Stwo_twice y_)] (Rq (Pi r_)):=by
 unfold zh9 at h;refine zbn Tryz.func100 J Tryz.ntmps100 (by rfl) (by simp) fun s0 a L=>?_;refine rA 3 L fun a s L=>?_;obtain ⟨r1,h2,r3,h4,r5,h6,r7,h8,r9,h10,r11,h12,h⟩:=h;refine wp_seq (rdx 17 (pp (zeg h2) (pp (zeg h4) (pp (zk3 h6) (pp (zk3 h8) (pp (zc3 h10) (p1 (zll h12))))))) L fun a s L=>?_);refine sA 1 L fun a s L=>?_;refine es ?_;subst h;exact wp_ret (zdr J L J)
end
end Go.Proofs.YtjdaaiodniicoaaGreatDoor.V
namespace Go.Proofs.YtjdaaiodniicoaaGreatDoor.V
open Go
set_option linter.unusedVariables false
section
variable {u : Bool} [Dr u]
structure Le {α:Type} (E F:En α):Prop where
 sz:E.sz=F.sz
 agg:E.agg=F.agg
 R:∀{w S cs x},E.R w S cs x→F.R w S cs x
section
variable {α β : Type} {E F : En α} {E' F' : En β}
theorem Le.refl (E:En α):Le E E:=⟨rfl,rfl,id⟩
theorem Le.cat (h:Le E F) (k:Le E' F'):Le (E.cat E') (F.cat F'):=⟨by show E.sz+E'.sz=F.sz+F'.sz;rw [h.sz,k.sz],rfl,fun ⟨a,b,e,h1,h2⟩=>⟨a,b,e,h.R h1,k.R h2⟩⟩
theorem Le.els (h:Le E F) {w S css xs} (k:Els E w S css xs):Els F w S css xs:=⟨k.1,fun i cs x a b=>h.R (k.2 i cs x a b)⟩
theorem Le.slice (h:Le E F):Le (En.slice E) (En.slice F):=⟨rfl,rfl,fun ⟨v,e,ad,cap,hv,h1,h2,h3,h4⟩=>⟨v,e,ad,cap,hv,h1,h2,h3,fun hn=>let ⟨b,off,css,h5,h6,h7,h8⟩:=h4 hn;⟨b,off,css,h5,h6,h.els h7,h8⟩⟩⟩
end
section
variable {P : Program} {f : FuncId} {q : Pd} {qs : List Pd}
end
theorem Ty.as {α β:Type} {P:Program} {t:TypeId} {E:En α} {F:En β} (h:Ty P t E) (hs:E.sz=F.sz) (ha:E.agg=F.agg):Ty P t F:=by
 obtain ⟨⟨i,z,h1,h2,h3⟩,d,h4,h5⟩:=h;rw [hs] at h2 h3;rw [ha] at h5;exact ⟨⟨i,z,h1,h2,h3⟩,d,h4,h5⟩
section
variable {M : Nat → Prop} {n : Nat} {s0 : St} {a : Act} {s : St} {L L' : Lst} {α β : Type} {E : En α} {B : En β}
end
section
variable {P : Program} {ops : Array Oper} {o : Oper} {L L' : Lst} {H : Nat → Prop} {sz : Nat} {us : List (Value × Nat)} {uv : Value × Nat} {m : Nat} {y : Operand} {t te : TypeId}
section
variable {Q : Exit → Act → World → Prop} {rest : List Oper} {M : Nat → Prop} {n : Nat} {s0 : St} {a : Act} {s : St}
end
end
end
section
variable {P : Program} {ops : Array Oper} {o : Oper} {L : Lst}
end
end Go.Proofs.YtjdaaiodniicoaaGreatDoor.V
namespace Go.Proofs.YtjdaaiodniicoaaGreatDoor.V
open Go
set_option linter.unusedVariables false
section
variable {P : Program} {ops : Array Oper} {Q : Exit → Act → World → Prop} {a : Act} {w : World} {f : Nat} {listed : Array Bool}
def Qn (Q:Exit→Act→World→Prop) (K:Act→World→Prop):Exit→Act→World→Prop
 | .normal,a,w=>K a w
 | e,a,w=>Q e a w
theorem upon_n {o:Oper} {K K':Act→World→Prop} (hK:∀a w,K' a w→K a w) (r:Result Next) (h:o.upon P a K' (Qn Q K) r):o.upon P a K Q r:=by
 cases r with
 | ok n w'=>
  cases n <;> simp only [Oper.upon] at h ⊢ <;>
   first
    | exact hK _ _ h
    | exact Calls.mono h (fun e w'' he=>by cases e <;> first | exact hK _ _ he | exact he)
    | exact Rows.mono h (fun _ _ he=>hK _ _ he)
 | halt x w'=>cases x <;> simp only [Oper.upon] at h ⊢ <;> exact h
theorem op_of {i:Nat} {o:Oper} {K:Act→World→Prop} (hi:ops[i]?=some o) (h:wpList P ops (Qn Q K) [o] a w):wpOp P ops Q i K a w:=by
 unfold wpOp;rw [hi];simp only [wpList] at h ⊢;split
 ·rename_i hw
  rw [if_pos hw] at h;exact h.imp (fun h=>upon_n (fun _ _ h=>h) _ h) id
 ·rename_i hw
  rw [if_neg hw] at h;exact h
theorem ol {K:Act→World→Prop} (h:K a w):wpList P ops (Qn Q K) [] a w:=h
end
section
variable {P : Program} {ops : Array Oper} {o : Oper} {L : Lst}
end
end Go.Proofs.YtjdaaiodniicoaaGreatDoor.V
namespace Go.Proofs.YtjdaaiodniicoaaGreatDoor.V
open Go
set_option linter.unusedVariables false
def okNo (ops:Array Oper) (e c:Nat):Bool:=(List.range e).all fun i=>match ops[i]? with
 | none=>true
 | some o=>o.after.toList.all fun ed=>!Region.binds .any ed||!Nat.beq ed.on c
def stQs (qs:List Pd) (c:Nat) (qx:Pd) (b:Bool):List Pd:=bif b then qs.set c qx else qs
theorem zq8 {qs:List Pd} {c i:Nat} {qx:Pd} {b:Bool} (h:i≠c):(stQs qs c qx b)[i]?=qs[i]?:=by
 cases b
 ·rfl
 ·exact List.getElem?_set_ne (Ne.symm h)
theorem rs_key {P:Program} {ops:Array Oper} {Q:Exit→Act→World→Prop} {M:Nat→Prop} {n:Nat} {s0:St} {s:St} {L:Lst} (e c dc K:Nat) (oe:Oper) (qs:List Pd) (qx:Pd) (hK:s0.w.heap.size≤K) (hLow:Kp (fun b=>K≤b) L L)
  (hok:zd0 ops (e+1) n (L.map (·.1)) [e]=true) (htail:((List.range' (e+1) (ops.size-(e+1))).all fun i=>zfn ops ops.size i e)=true) (hno:okNo ops e c=true) (hq:qs.length=e) (he:ops[e]?=some oe) (hed:oe.dst=none) (heg:oe.guard=none)
  (hce:c<e) (hec:∃ed∈oe.after.toList,Region.binds .any ed=true∧ed.on=c) (hdc:(ops[c]?).bind (·.dst)=some dc)
  (hT:∀i o q,i<e→ops[i]?=some o→qs[i]?=some q→T P ops o (zh3 ops qs o.after.toList L) q)
  (hS:∀i q,i<e→i≠c→qs[i]?=some q→∀b,q.own b→¬ K≤b)
  (hE:∀a s',Has M n s0 a s' (zh3 ops qs oe.after.toList L)→∀(k:Act→World→Prop),(∀s'',Xk K s' s''→qx.p s'' (a.eval (.tmp dc))→k a s''.w)→oe.wp P a s'.w k Q)
  (hB:∀a' s',Xk K s s'→Has M n s0 a' s' (zmp ops (qs.set c qx) e L)→wpOps P ops Q (List.range' (e+1) (ops.size-(e+1))) a' s'.w):
  ∀(f:Nat) (listed:Array Bool) (a:Act) (s':St),listed.size=ops.size→((List.range ops.size).filter (fun i=>!listed.getD i true)).length=f→Xk K s s'→Has M n s0 a s' L →
   (∀i o,listed.getD i false=true→ops[i]?=some o→∀ed∈o.after.toList,Region.binds .any ed=true→listed.getD ed.on false=true)→(∀i,i<ops.size→e+1≤i→listed.getD i true=false) →
   (∀i,i<e→listed.getD i true=true→∀d q,(ops[i]?).bind (·.dst)=some d→(stQs qs c qx (listed.getD e false))[i]?=some q→q.p s' (a.eval (.tmp d)))→wpAny P .any ops Q f listed a s'.w:=by
 have hes:e<ops.size:=(Array.getElem?_eq_some_iff.1 he).1;have hok':=hok;unfold zd0 at hok';rw [Bool.and_eq_true] at hok';obtain ⟨_,hok'⟩:=hok';rw [List.all_eq_true] at hok';rw [List.all_eq_true] at htail;unfold okNo at hno;rw [List.all_eq_true] at hno;have gdf:∀(listed:Array Bool) (i:Nat),listed.size=ops.size→i<ops.size→listed.getD i false=listed.getD i true:=fun listed i h1 h2=>by simp [Array.getD,h1,h2]
 intro f
 induction f with
 | zero=>
  intro listed a s' hs hc ex hL' hcl hn hd;have hall:∀i,i<ops.size→listed.getD i true=true:=by
   intro i hi;have:(List.range ops.size).filter (fun i=>!listed.getD i true)=[]:=List.length_eq_zero_iff.1 hc;rw [List.filter_eq_nil_iff] at this;have:=this i (by simpa using hi);simpa using this
  have hmm:e+1=ops.size:=by
   rcases Nat.lt_or_ge (e+1) ops.size with h | h
   ·have:=hn (e+1) h (Nat.le_refl _);rw [hall _ h] at this;cases this
   ·omega
  refine zgi hok 0 ops.size listed a s'.w (by omega) (by omega) hs (fun i hi=>by rw [hall i hi];simp [hi]) ?_;have hle:listed.getD e false=true:=by rw [gdf listed e hs hes];exact hall e hes
  have:=hB a s' ex (zij hL' e fun i hi d q hdd hqq=>hd i hi (hall i (by omega)) d q hdd (by rw [hle];exact hqq));rw [hmm] at this;simpa using this
 | succ f ih=>
  intro listed a s' hs hc ex hL' hcl hn hd
  by_cases hdone:∀i,i<e+1→listed.getD i true=true
  ·-- the tail
   have hf:f+1=ops.size-(e+1):=by
    rw [← hc];have h1:(List.range ops.size).filter (fun i=>!listed.getD i true)=List.range' (e+1) (ops.size-(e+1)):=by
     have e1:List.range ops.size=List.range' 0 (e+1)++List.range' (e+1) (ops.size-(e+1)):=by
      rw [List.range_eq_range',show ops.size=(e+1)+(ops.size-(e+1)) by omega,← List.range'_append_1];simp
     rw [e1,List.filter_append];have e2:(List.range' 0 (e+1)).filter (fun i=>!listed.getD i true)=[]:=by
      rw [List.filter_eq_nil_iff];intro i hi;simp only [List.mem_range'_1] at hi;simp [hdone i (by omega)]
     have e3:(List.range' (e+1) (ops.size-(e+1))).filter (fun i=>!listed.getD i true)=List.range' (e+1) (ops.size-(e+1)):=by
      rw [List.filter_eq_self];intro i hi;simp only [List.mem_range'_1] at hi;simp [hn i (by omega) (by omega)]
     rw [e2,e3,List.nil_append]
    rw [h1];simp
   refine zgi hok (f+1) (e+1) listed a s'.w (by omega) (Nat.le_refl _) hs (fun i hi=>?_) ?_
   ·by_cases h:i<e+1
    ·simp [h,hdone i h]
    ·simp [h,hn i hi (by omega)]
   ·have hle:listed.getD e false=true:=by rw [gdf listed e hs hes];exact hdone e (by omega)
    rw [hf];exact hB a s' ex (zij hL' e fun i hi d q hdd hqq=>hd i hi (hdone i (by omega)) d q hdd (by rw [hle];exact hqq))
  ·have hex:∃i,i<e+1∧listed.getD i true=false:=by
    have h1:=Classical.not_forall.1 hdone;obtain ⟨i,hi⟩:=h1;rw [Classical.not_imp] at hi;exact ⟨i,hi.1,by simpa using hi.2⟩
   have hlow:∀i,i∈Region.ready .any ops listed→i<e+1:=by
    intro i hi;obtain ⟨h1,h2,o,ho,h3⟩:=zdf.1 hi;rcases Nat.lt_or_ge i (e+1) with h | h
    ·exact h
    ·exfalso;obtain ⟨k,hk,hkl⟩:=hex;have h7:zfn ops ops.size i k=true:=by
      by_cases hke:k=e
      ·subst hke;exact htail i (by simp only [List.mem_range'_1];omega)
      ·have h5:=hok' i (by simpa using h1);simp only [ho,Bool.and_eq_true] at h5;have h6:=h5.2;rw [if_neg (by omega),List.all_eq_true] at h6;have:=h6 k (by simp;omega);have hkF:([e]:List Nat).contains k=false:=by simp [hke]
       rw [hkF,Bool.false_or] at this;exact this
     have h8:=zef (ops:=ops) (p:=fun j=>listed.getD j false=true) hcl _ i k h7 (fun o' ho'=>by rw [ho] at ho';cases ho';exact h3);rw [gdf listed k hs (by omega),hkl] at h8;cases h8
   refine ⟨fun hnil=>?_,fun i hi=>?_⟩
   ·-- the least that isn't done is ready
    exfalso;obtain ⟨k,hk,hmin⟩:=exists_least (p:=fun i=>i<e+1∧listed.getD i true=false) hex;obtain ⟨o,ho⟩:∃o,ops[k]?=some o:=⟨ops[k]'(by omega),by simp⟩;have:k∈Region.ready .any ops listed:=by
     refine zdf.2 ⟨by omega,hk.2,o,ho,fun ed hde hb=>?_⟩;have h5:=hok' k (by simp;omega);simp only [ho,Bool.and_eq_true] at h5;have h1:=List.all_eq_true.1 h5.1 ed hde;simp only [hb,Bool.not_true,Bool.false_or] at h1;have h2:ed.on<k:=Nat.le_of_ble_eq_true h1;rw [gdf listed ed.on hs (by omega)]
     by_cases h6:listed.getD ed.on true=true
     ·exact h6
     ·have:=hmin ed.on ⟨by omega,by simpa using h6⟩;omega
    rw [hnil] at this;simp at this
   ·have him:=hlow i hi;obtain ⟨h1,h2,o,ho,h3⟩:=zdf.1 hi;have h5:=hok' i (by simpa using h1);have hfew:((List.range ops.size).filter (fun j=>!(listed.setIfInBounds i true).getD j true)).length=f:=by
     have hnd:((List.range ops.size).filter (fun j=>!listed.getD j true)).Nodup:=List.Nodup.sublist List.filter_sublist List.nodup_range;have hmem:i∈(List.range ops.size).filter (fun j=>!listed.getD j true):=List.mem_filter.2 ⟨by simpa using h1,by rw [h2];rfl⟩;have e1:(List.range ops.size).filter (fun j=>!(listed.setIfInBounds i true).getD j true)=((List.range ops.size).filter (fun j=>!listed.getD j true)).filter (fun j=>j != i):=by
      rw [List.filter_filter];refine List.filter_congr fun j hj=>?_;rw [zb3 (by omega)]
      by_cases hji:j=i <;> simp [hji]
     rw [e1,← List.Nodup.erase_eq_filter hnd,List.length_erase_of_mem hmem,hc];rfl
    have hcl2:∀j o',(listed.setIfInBounds i true).getD j false=true→ops[j]?=some o'→∀ed∈o'.after.toList,Region.binds .any ed=true→(listed.setIfInBounds i true).getD ed.on false=true:=by
     intro j o' hj ho' e2 he2 hb2;rw [zb3 (by omega)] at hj ⊢;split
     ·rfl
     ·by_cases hji:j=i
      ·subst hji;rw [ho] at ho';cases ho';exact h3 e2 he2 hb2
      ·rw [if_neg hji] at hj;exact hcl j o' hj ho' e2 he2 hb2
    have hn2:∀j,j<ops.size→e+1≤j→(listed.setIfInBounds i true).getD j true=false:=fun j hj hmj=>by
     rw [zb3 (by omega),if_neg (by omega)];exact hn j hj hmj
    simp only [ho,Bool.and_eq_true] at h5;have hdepi:∀ed∈o.after.toList,Region.binds .any ed=true→ed.on<i:=fun ed hde hb=>by
     have h8:=List.all_eq_true.1 h5.1 ed hde;simp only [hb,Bool.not_true,Bool.false_or] at h8;exact Nat.le_of_ble_eq_true h8
    by_cases hie:i=e
    ·-- the store
     subst hie;rw [he] at ho;cases ho;have hl0:listed.getD i false=false:=by rw [gdf listed i hs h1];exact h2
     have hdep:Has M n s0 a s' (zh3 ops qs oe.after.toList L):=zj8 hL' _ fun e' he' hb d' q' hd' hq'=>by
      have h7:=h3 e' he' hb;have h9:=hdepi e' he' hb;exact hd e'.on h9 (by rw [← gdf listed e'.on hs (by omega)];exact h7) d' q' hd' (by rw [hl0];exact hq')
     unfold wpOp;simp only [he,Region.wanted,heg,if_true];refine .inl (hE a s' hdep _ fun s'' hx hqx=>?_);refine ih _ _ s'' (by simpa using hs) hfew (ex.trans hx) (hL'.xk hx hK hLow) hcl2 hn2 ?_;intro j hj hlj d' q'' hd' hq'';rw [zb3 (by omega),if_neg (by omega)] at hlj;rw [zb3 (by omega),if_pos rfl] at hq''
     by_cases hjc:j=c
     ·subst hjc;rw [hdc] at hd';cases hd';have:(qs.set j qx)[j]?=some qx:=List.getElem?_set_self (by omega);have hq3:(qs.set j qx)[j]?=some q'':=hq'';rw [this] at hq3;cases hq3;exact hqx
     ·rw [zq8 hjc] at hq'';exact hx.pd (hS j q'' hj hjc hq'') (hd j hj hlj d' q'' hd' (by rw [zq8 hjc];exact hq''))
    ·have hlt:i<e:=by omega
     obtain ⟨q,hqi⟩:∃q,qs[i]?=some q:=⟨qs[i]'(by omega),by simp⟩;have hiF:([e]:List Nat).contains i=false:=by simp [hie]
     simp only [if_pos him,hiF,Bool.false_or] at h5;obtain ⟨d,hdst⟩:∃d,o.dst=some d:=by
      cases hd':o.dst with
      | none=>rw [hd'] at h5;simp at h5
      | some d=>exact ⟨d,rfl⟩
     have h6:=h5.2;rw [hdst] at h6;simp only [Bool.and_eq_true] at h6;have hnoc:∀ed∈o.after.toList,Region.binds .any ed=true→ed.on≠c:=fun ed hde hb e0=>by
      have:=hno i (by simpa using hlt);rw [ho] at this;have:=List.all_eq_true.1 this ed hde;simp [hb,e0] at this
     have hdep:Has M n s0 a s' (zh3 ops qs o.after.toList L):=zj8 hL' _ fun e' he' hb d' q' hd' hq'=>by
      have h7:=h3 e' he' hb;have h9:=hdepi e' he' hb;exact hd e'.on (by omega) (by rw [← gdf listed e'.on hs (by omega)];exact h7) d' q' hd' (by rw [zq8 (hnoc e' he' hb)];exact hq')
     have hle2:(listed.setIfInBounds i true).getD e false=listed.getD e false:=by rw [zb3 (by omega),if_neg (Ne.symm hie)]
     have hrun:=hT i o q hlt ho hqi M n s0 a s' hdep Q (wpAny P .any ops Q f (listed.setIfInBounds i true)) ?_
     ·unfold wpOp;simp only [ho]
      by_cases hw:Region.wanted o (yielded ops a.tmps)=true
      ·rw [if_pos hw] at hrun ⊢;exact .inl hrun
      ·rw [if_neg hw] at hrun ⊢;exact hrun
     ·rintro v s'' ⟨e',hq'⟩;have hfresh:lk L d=none:=zr1 h6.1.2;refine ih _ _ s'' (by simpa using hs) hfew (ex.trans (Xk.of e' K)) ?_ hcl2 hn2 ?_
      ·have hp:=hL'.put e' (d:=d) h6.1.1 hq';rw [hdst];refine hp.sub fun t q'' hl=>hp.at_ t q'' ?_;unfold lk;have:d≠t:=fun he=>by rw [he] at hfresh;rw [hfresh] at hl;cases hl
       rw [zhd this];exact hl
      ·intro j hj hlj d' q'' hd' hq'';rw [hle2] at hq'';rw [hdst]
       by_cases hji:j=i
       ·subst hji;rw [ho,Option.bind_some,hdst] at hd';cases hd';rw [zd7 hL'.size h6.1.1]
        by_cases hjc:j=c
        ·-- the new variable is made: the store is not done
         subst hjc;obtain ⟨ed,hde,hb,hon⟩:=hec;have hne:listed.getD e false=false:=by
          cases hle:listed.getD e false
          ·rfl
          ·have:=hcl e oe hle he ed hde hb;rw [hon,gdf listed j hs h1,h2] at this;cases this
         rw [hne] at hq'';have:qs[j]?=some q'':=hq'';rw [hqi] at this;cases this;exact hq'
        ·rw [zq8 hjc,hqi] at hq'';cases hq'';exact hq'
       ·rw [zb3 (by omega),if_neg hji] at hlj;have h7:=List.all_eq_true.1 h6.2 j (by simp;omega);have h8:Nat.beq j i=false:=zhd hji;rw [h8,Bool.false_or,hd'] at h7;have:d≠d':=fun he=>by simp [he] at h7
        rw [zfq this];exact Pd.ex e' (hd j hj hlj d' q'' hd' hq'')
theorem rs_go {P:Program} {id:Nat} {l:List Oper} {Q:Exit→Act→World→Prop} {M:Nat→Prop} {n:Nat} {s0:St} {a:Act} {s:St} {L:Lst} (hf:P.follows .mixedOrders=true) (e c dc:Nat) (oe:Oper) (qs:List Pd) (qx:Pd) {K:Nat} (hKs:K≤s.w.heap.size) (hK:s0.w.heap.size≤K) (hL:Has M n s0 a s L) (hLow:Kp (fun b=>K≤b) L L)
  (hok:zd0 l.toArray (e+1) n (L.map (·.1)) [e]=true) (htail:((List.range' (e+1) (l.toArray.size-(e+1))).all fun i=>zfn l.toArray l.toArray.size i e)=true) (hno:okNo l.toArray e c=true) (hq:Nat.beq qs.length e=true) (he:l.toArray[e]?=some oe) (hed:oe.dst=none) (heg:oe.guard=none)
  (hce:Nat.blt c e=true) (hec:(oe.after.toList.any fun ed=>Region.binds .any ed&&Nat.beq ed.on c)=true) (hdc:(l.toArray[c]?).bind (·.dst)=some dc)
  (hT:zbe P l.toArray qs L l qs)
  (hS:∀i q,i<e→i≠c→qs[i]?=some q→∀b,q.own b→¬ K≤b)
  (hE:∀a s',Has M n s0 a s' (zh3 l.toArray qs oe.after.toList L)→∀(k:Act→World→Prop),(∀s'',Xk K s' s''→qx.p s'' (a.eval (.tmp dc))→k a s''.w)→oe.wp P a s'.w k Q)
  (hB:∀a' s',Has M n s0 a' s' (zmp l.toArray (qs.set c qx) e L)→wpList P l.toArray Q (l.drop (e+1)) a' s'.w):(Code.region id l.toArray true).wp P Q a s.w:=by
 refine rdf l.toArray.size hf hL rfl fun s1 e1 hL1=>?_;have hes:e<l.length:=by
  have:=(Array.getElem?_eq_some_iff.1 he).1;simpa using this
 refine rs_key (s:=s1) e c dc K oe qs qx hK hLow hok htail hno (Nat.eq_of_beq_eq_true hq) he hed heg (Nat.le_of_ble_eq_true hce) ?_ hdc (fun i o q hi ho hq=>zbe.at l qs hT i o q (by simpa using ho) hq) hS hE (fun a' s' hx hL'=>?_) _ _ _ _ (by simp) (by
  rw [List.filter_eq_self.2]
  ·simp
  ·intro i hi;simp at hi;simp [hi]) (Xk.of (Ex.refl s1) K) hL1 (fun i o h=>by simp [Array.getD] at h) (fun i hi _=>by simp at hi;simp [hi]) (fun i hi h=>by simp [show i<l.length by omega] at h)
 ·obtain ⟨ed,h1,h2⟩:=List.any_eq_true.1 hec;rw [Bool.and_eq_true] at h2;exact ⟨ed,h1,h2.1,Nat.eq_of_beq_eq_true h2.2⟩
 ·have:=hB a' s' hL';rw [← wpOps_eq_wpList (l.drop (e+1)) (e+1) (fun j=>by simp)] at this;simpa using this
theorem se_box {P:Program} {ops:Array Oper} {Q:Exit→Act→World→Prop} {α:Type} {E:En α} {z x:α} {N K dc:Nat} {o:Oper} {t:TypeId} {y:Operand} {L:Lst} (hc:lk L dc=some (Pd.ebox E N K z)) (hy:Opn L y (Pd.rep E x)) (ht:Ty P t E) (ho:o.op = .store t (.tmp dc) y)
  {M:Nat→Prop} {n:Nat} {s0:St} (a:Act) (s:St) (hL:Has M n s0 a s L) (k:Act→World→Prop) (kk:∀s'',Xk K s s''→(Pd.ebox E N K x).p s'' (a.eval (.tmp dc))→k a s''.w) (hd:o.dst=none):o.wp P a s.w k Q:=by
 obtain ⟨g,hgK,hv,hN,hX,cs0,te,hg,hR0⟩:=hL.get dc hc;obtain ⟨cs,hcv,hR⟩:=hy M n s0 a s hL;have hlen0:=E.len hR0;have hlen:=E.len hR;have hr:=zl3 (P:=P) ht hR (g:=g) (off:=0) (cur:=cs0) (te:=te) hg (by omega);have e0:Ef (fun b=>b=g) s (s.set g (spl cs0 0 cs)):=Ef.set s _ (fun _=>Iff.rfl) hX;have hx:Xk K s (s.set g (spl cs0 0 cs)):=
  ⟨⟨e0.mv.dr,e0.mv.os,e0.mv.tape,e0.mv.output,e0.mv.size,fun b hb hn=>e0.mv.blk b hb (fun e=>hn ⟨e ▸ hgK,e ▸ hX⟩),fun b hb=>hb.2,e0.mv.xx⟩,fun b _ hb=>hb⟩
 have hsp:spl cs0 0 cs=cs:=by simp [spl,hlen0,hlen]
 have h2:=kk (s.set g (spl cs0 0 cs)) hx ⟨g,hgK,hv,hN,hX,cs,te,by rw [hsp];exact setRow_heap s.w g cs0.toArray _ te (0,0) hg,E.go hx.mv hR⟩;unfold Oper.wp execOp;simp only [ho,hv,hcv,Sem.run_bind,hr,Result.andThen_ok,Sem.run_pure];unfold Oper.upon;simp only [hd];exact h2
theorem rk_key {P:Program} {ops:Array Oper} {Q:Exit→Act→World→Prop} {M:Nat→Prop} {n:Nat} {s0:St} {s:St} {Lp:Lst} {ι:Type} (e de m:Nat) (oe:Oper) (qsA:List Pd) (qsB:ι→List Pd) (Lq:ι→Lst) (C:ι→Prop) (low:Pd→Prop)
  (hokA:zd0 ops m n (Lp.map (·.1)) []=true) (hokB:∀i,zd0 ops m n ((Lq i).map (·.1)) [e]=true) (hfresh:∀i,lk (Lq i) de=none) (hem:e<m) (hm:m≤ops.size) (htail:((List.range' m (ops.size-m)).all fun i=>zfn ops ops.size i e)=true) (hqA:qsA.length=m) (hqB:∀i,(qsB i).length=m) (he:ops[e]?=some oe) (hed:oe.dst=some de)
  (hAB:∀i j q,j<m→j≠e→zfn ops ops.size j e=false→qsA[j]?=some q→(qsB i)[j]?=some q)
  (hlowA:∀j q,j<m→j≠e→zfn ops ops.size j e=false→qsA[j]?=some q→low q)
  (hTA:∀j o q,j<m→j≠e→zfn ops ops.size j e=false→ops[j]?=some o→qsA[j]?=some q→T P ops o (zh3 ops qsA o.after.toList Lp) q)
  (hTB:∀i,C i→∀j o q,j<m→ops[j]?=some o→(qsB i)[j]?=some q→([e]:List Nat).contains j=false→T P ops o (zh3 ops (qsB i) o.after.toList (Lq i)) q)
  (hE:∀a s',Has M n s0 a s' (zh3 ops qsA oe.after.toList Lp)→∀(K:Act→World→Prop),(∀v s'' i q,C i→(qsB i)[e]?=some q→q.p s'' v→Has M n s0 a s'' (Lq i)→(∀r u,low r→r.p s' u→r.p s'' u)→K (a.put (some de) v) s''.w)→wpList P ops (Qn Q K) [oe] a s'.w)
  (hB:∀i,C i→∀a' s',Has M n s0 a' s' (zmp ops (qsB i) m (Lq i))→wpOps P ops Q (List.range' m (ops.size-m)) a' s'.w):
  ∀(f:Nat) (listed:Array Bool) (a:Act) (s':St),listed.size=ops.size→((List.range ops.size).filter (fun i=>!listed.getD i true)).length=f→Has M n s0 a s' Lp →
   (∀i o,listed.getD i false=true→ops[i]?=some o→∀ed∈o.after.toList,Region.binds .any ed=true→listed.getD ed.on false=true)→(∀i,i<ops.size→m≤i→listed.getD i true=false)→listed.getD e true=false →
   (∀i,i<m→listed.getD i true=true→∀d q,(ops[i]?).bind (·.dst)=some d→qsA[i]?=some q→q.p s' (a.eval (.tmp d)))→wpAny P .any ops Q f listed a s'.w:=by
 have hes:e<ops.size:=(Array.getElem?_eq_some_iff.1 he).1;have hok':=hokA;unfold zd0 at hok';rw [Bool.and_eq_true] at hok';obtain ⟨_,hok'⟩:=hok';rw [List.all_eq_true] at hok';rw [List.all_eq_true] at htail;have gdf:∀(listed:Array Bool) (i:Nat),listed.size=ops.size→i<ops.size→listed.getD i false=listed.getD i true:=fun listed i h1 h2=>by simp [Array.getD,h1,h2]
 intro f
 induction f with
 | zero=>
  intro listed a s' hs hc hL' hcl hn hle hd;exfalso;have:(List.range ops.size).filter (fun i=>!listed.getD i true)=[]:=List.length_eq_zero_iff.1 hc;rw [List.filter_eq_nil_iff] at this;have:=this e (by simpa using hes);simp [hle] at this
 | succ f ih=>
  intro listed a s' hs hc hL' hcl hn hle hd;have hrl:∀i o,ops[i]?=some o→(∀ed∈o.after.toList,Region.binds .any ed=true→listed.getD ed.on false=true)→zfn ops ops.size i e=false:=fun i o ho h3=>by
   cases hr:zfn ops ops.size i e
   ·rfl
   ·have:=zef (ops:=ops) (p:=fun j=>listed.getD j false=true) hcl _ i e hr (fun o' ho'=>by rw [ho] at ho';cases ho';exact h3);rw [gdf listed e hs hes,hle] at this;cases this
  have hlow:∀i,i∈Region.ready .any ops listed→i<m:=by
   intro i hi;obtain ⟨h1,h2,o,ho,h3⟩:=zdf.1 hi;rcases Nat.lt_or_ge i m with h | h
   ·exact h
   ·have:=hrl i o ho h3;rw [htail i (by simp only [List.mem_range'_1];omega)] at this;cases this
  refine ⟨fun hnil=>?_,fun i hi=>?_⟩
  ·exfalso;obtain ⟨k,hk,hmin⟩:=exists_least (p:=fun i=>i<m∧listed.getD i true=false) ⟨e,hem,hle⟩;obtain ⟨o,ho⟩:∃o,ops[k]?=some o:=⟨ops[k]'(by omega),by simp⟩;have:k∈Region.ready .any ops listed:=by
    refine zdf.2 ⟨by omega,hk.2,o,ho,fun ed hde hb=>?_⟩;have h5:=hok' k (by simp;omega);simp only [ho,Bool.and_eq_true] at h5;have h1:=List.all_eq_true.1 h5.1 ed hde;simp only [hb,Bool.not_true,Bool.false_or] at h1;have h2:ed.on<k:=Nat.le_of_ble_eq_true h1;rw [gdf listed ed.on hs (by omega)]
    by_cases h6:listed.getD ed.on true=true
    ·exact h6
    ·have:=hmin ed.on ⟨by omega,by simpa using h6⟩;omega
   rw [hnil] at this;simp at this
  ·have him:=hlow i hi;obtain ⟨h1,h2,o,ho,h3⟩:=zdf.1 hi;have h5:=hok' i (by simpa using h1);have hfew:((List.range ops.size).filter (fun j=>!(listed.setIfInBounds i true).getD j true)).length=f:=by
    have hnd:((List.range ops.size).filter (fun j=>!listed.getD j true)).Nodup:=List.Nodup.sublist List.filter_sublist List.nodup_range;have hmem:i∈(List.range ops.size).filter (fun j=>!listed.getD j true):=List.mem_filter.2 ⟨by simpa using h1,by rw [h2];rfl⟩;have e1:(List.range ops.size).filter (fun j=>!(listed.setIfInBounds i true).getD j true)=((List.range ops.size).filter (fun j=>!listed.getD j true)).filter (fun j=>j != i):=by
     rw [List.filter_filter];refine List.filter_congr fun j hj=>?_;rw [zb3 (by omega)]
     by_cases hji:j=i <;> simp [hji]
    rw [e1,← List.Nodup.erase_eq_filter hnd,List.length_erase_of_mem hmem,hc];rfl
   have hcl2:∀j o',(listed.setIfInBounds i true).getD j false=true→ops[j]?=some o'→∀ed∈o'.after.toList,Region.binds .any ed=true→(listed.setIfInBounds i true).getD ed.on false=true:=by
    intro j o' hj ho' e2 he2 hb2;rw [zb3 (by omega)] at hj ⊢;split
    ·rfl
    ·by_cases hji:j=i
     ·subst hji;rw [ho] at ho';cases ho';exact h3 e2 he2 hb2
     ·rw [if_neg hji] at hj;exact hcl j o' hj ho' e2 he2 hb2
   have hn2:∀j,j<ops.size→m≤j→(listed.setIfInBounds i true).getD j true=false:=fun j hj hmj=>by
    rw [zb3 (by omega),if_neg (by omega)];exact hn j hj hmj
   simp only [ho,Bool.and_eq_true,if_pos him] at h5;have hdepi:∀ed∈o.after.toList,Region.binds .any ed=true→ed.on<i:=fun ed hde hb=>by
    have h8:=List.all_eq_true.1 h5.1 ed hde;simp only [hb,Bool.not_true,Bool.false_or] at h8;exact Nat.le_of_ble_eq_true h8
   have hdep:Has M n s0 a s' (zh3 ops qsA o.after.toList Lp):=zj8 hL' _ fun e' he' hb d' q' hd' hq'=>by
    have h7:=h3 e' he' hb;have h9:=hdepi e' he' hb;exact hd e'.on (by omega) (by rw [← gdf listed e'.on hs (by omega)];exact h7) d' q' hd' hq'
   have hnoe:∀j,listed.getD j false=true→j<ops.size→j≠e∧zfn ops ops.size j e=false:=fun j hj hjs=>by
    refine ⟨fun e0=>?_, ?_⟩
    ·rw [e0,gdf listed e hs hes,hle] at hj;cases hj
    ·obtain ⟨o',ho'⟩:∃o',ops[j]?=some o':=⟨ops[j],by simp [hjs]⟩;exact hrl j o' ho' (hcl j o' hj ho')
   by_cases hie:i=e
   ·-- the call
    subst hie;rw [he] at ho;cases ho;refine op_of he ?_;refine hE a s' hdep _ fun v s'' i' q hC hqe hqv hLq hpres=>?_;have hfr:lk (Lq i') de=none∧∀j,j<m→j≠i→(ops[j]?).bind (·.dst)≠some de:=by
     have h6:=h5.2;simp only [hed] at h6;have hF:([]:List Nat).contains i=false:=rfl;rw [hF,Bool.false_or] at h6;simp only [Bool.and_eq_true] at h6;refine ⟨hfresh i',fun j hj hji e0=>?_⟩;have h7:=List.all_eq_true.1 h6.2 j (by simpa using hj);rw [zhd hji,Bool.false_or,e0] at h7;simp at h7
    have hn3:Nat.blt de n=true:=by
     have h6:=h5.2;simp only [hed] at h6;have hF:([]:List Nat).contains i=false:=rfl;rw [hF,Bool.false_or] at h6;simp only [Bool.and_eq_true] at h6;exact h6.1.1
    have hL3:Has M n s0 (a.put (some de) v) s'' (Lq i'):=by
     have hp:=hLq.put' (d:=de) hn3 hqv;refine hp.sub fun t r hl=>hp.at_ t r ?_;rw [zil];have:de≠t:=fun e0=>by rw [← e0,hfr.1] at hl;cases hl
     rw [if_neg this];exact hl
    refine rd_key (s:=s'') m (qsB i') [i] (hokB i') (hqB i') hm (hTB i' hC) (fun a3 s3 _ h=>hB i' hC a3 s3 h) f _ _ s'' (by simpa using hs) hfew (Ex.refl s'') hL3 hcl2 hn2 ?_ ?_
    ·intro j hj hlj d' q'' hd' hq''
     by_cases hji:j=i
     ·subst hji;rw [he,Option.bind_some,hed] at hd';cases hd';rw [hqe] at hq'';cases hq'';rw [zd7 hL'.size hn3];exact hqv
     ·rw [zb3 (by omega),if_neg hji] at hlj;have hlf:listed.getD j false=true:=by rw [gdf listed j hs (by omega)];exact hlj
      obtain ⟨k5,k6⟩:=hnoe j hlf (by omega);obtain ⟨qa,hqa⟩:∃qa,qsA[j]?=some qa:=⟨qsA[j]'(by omega),by simp⟩;have:=hAB i' j qa hj k5 k6 hqa;rw [hq''] at this;cases this;have hne:de≠d':=fun e0=>hfr.2 j hj hji (by rw [hd',e0]);rw [zfq hne];exact hpres _ _ (hlowA j q'' hj k5 k6 hqa) (hd j hj hlj d' q'' hd' hqa)
    ·intro j hj;rw [List.mem_singleton.1 hj,zb3 (by omega),if_pos rfl]
   ·-- one that is typed
    have hre:=hrl i o ho h3;obtain ⟨q,hqi⟩:∃q,qsA[i]?=some q:=⟨qsA[i]'(by omega),by simp⟩;obtain ⟨d,hdst⟩:∃d,o.dst=some d:=by
     cases hd':o.dst with
     | none=>rw [hd'] at h5;simp at h5
     | some d=>exact ⟨d,rfl⟩
    have h6:=h5.2;have hF:([]:List Nat).contains i=false:=rfl;rw [hdst,hF,Bool.false_or] at h6;simp only [Bool.and_eq_true] at h6;have hle2:(listed.setIfInBounds i true).getD e true=false:=by rw [zb3 (by omega),if_neg (Ne.symm hie)];exact hle
    have hrun:=hTA i o q him hie hre ho hqi M n s0 a s' hdep Q (wpAny P .any ops Q f (listed.setIfInBounds i true)) ?_
    ·unfold wpOp;simp only [ho]
     by_cases hw:Region.wanted o (yielded ops a.tmps)=true
     ·rw [if_pos hw] at hrun ⊢;exact .inl hrun
     ·rw [if_neg hw] at hrun ⊢;exact hrun
    ·rintro v s'' ⟨e',hq'⟩;have hfr2:lk Lp d=none:=zr1 h6.1.2;refine ih _ _ s'' (by simpa using hs) hfew ?_ hcl2 hn2 hle2 ?_
     ·have hp:=hL'.put e' (d:=d) h6.1.1 hq';rw [hdst];refine hp.sub fun t q'' hl=>hp.at_ t q'' ?_;unfold lk;have:d≠t:=fun he=>by rw [he] at hfr2;rw [hfr2] at hl;cases hl
      rw [zhd this];exact hl
     ·intro j hj hlj d' q'' hd' hq'';rw [hdst]
      by_cases hji:j=i
      ·subst hji;rw [ho,Option.bind_some,hdst] at hd';cases hd';rw [zd7 hL'.size h6.1.1];rw [hqi] at hq'';cases hq'';exact hq'
      ·rw [zb3 (by omega),if_neg hji] at hlj;have h7:=List.all_eq_true.1 h6.2 j (by simp;omega);have h8:Nat.beq j i=false:=zhd hji;rw [h8,Bool.false_or,hd'] at h7;have:d≠d':=fun he=>by simp [he] at h7
       rw [zfq this];exact Pd.ex e' (hd j hj hlj d' q'' hd' hq'')
def zg0 (P:Program) (ops:Array Oper) (qs0:List Pd) (L:Lst) (e:Nat) (low:Pd→Prop):Nat→List Oper→List Pd→Prop
 | _,_,[]=>True
 | _,[],_::_=>False
 | i,o::l,q::qs=>(i≠e→zfn ops ops.size i e=false→T P ops o (zh3 ops qs0 o.after.toList L) q∧low q)∧zg0 P ops qs0 L e low (i+1) l qs
section
variable {P : Program} {ops : Array Oper} {qs0 : List Pd} {L : Lst} {e : Nat} {low : Pd → Prop}
theorem zg0.at:∀(k:Nat) (l:List Oper) (qs:List Pd),zg0 P ops qs0 L e low k l qs→∀(i:Nat) (o:Oper) (q:Pd),l[i]?=some o→qs[i]?=some q→k+i≠e→zfn ops ops.size (k+i) e=false→T P ops o (zh3 ops qs0 o.after.toList L) q∧low q
 | _,_,[],_,i,o,q,_,hq=>by simp at hq
 | _,[],_::_,h,_,_,_,_,_=>h.elim
 | k,o::l,q::qs,h,i,o',q',ho,hq=>by
  cases i with
  | zero=>simp at ho hq;subst ho;subst hq;exact h.1
  | succ i=>
   have:=zg0.at (k+1) l qs h.2 i o' q' (by simpa using ho) (by simpa using hq)
   rwa [show k+1+i=k+(i+1) by omega] at this
theorem zg0.t {i:Nat} {o:Oper} {l:List Oper} {q:Pd} {qs:List Pd} (h:T P ops o (zh3 ops qs0 o.after.toList L) q) (hl:low q) (h2:zg0 P ops qs0 L e low (i+1) l qs):zg0 P ops qs0 L e low i (o::l) (q::qs):=⟨fun _ _=>⟨h,hl⟩,h2⟩
theorem zg0.c {i:Nat} {o:Oper} {l:List Oper} {q:Pd} {qs:List Pd} (h:i=e) (h2:zg0 P ops qs0 L e low (i+1) l qs):zg0 P ops qs0 L e low i (o::l) (q::qs):=⟨fun h'=>absurd h h',h2⟩
theorem zg0.r {i:Nat} {o:Oper} {l:List Oper} {q:Pd} {qs:List Pd} (h:zfn ops ops.size i e=true) (h2:zg0 P ops qs0 L e low (i+1) l qs):zg0 P ops qs0 L e low i (o::l) (q::qs):=⟨fun _ h'=>(by rw [h] at h';cases h'),h2⟩
theorem zg0.nil {i:Nat} {l:List Oper}:zg0 P ops qs0 L e low i l []:=by cases l <;> trivial
end
def SameB (ops:Array Oper) (e:Nat):Nat→List Pd→List Pd→Prop
 | _,[],_=>True
 | _,_::_,[]=>False
 | i,q::qs,r::rs=>(i≠e→zfn ops ops.size i e=false→q=r)∧SameB ops e (i+1) qs rs
theorem SameB.at {ops:Array Oper} {e:Nat}:∀(k:Nat) (qs rs:List Pd),SameB ops e k qs rs→∀(i:Nat) (q:Pd),k+i≠e→zfn ops ops.size (k+i) e=false→qs[i]?=some q→rs[i]?=some q
 | _,[],_,_,i,q,_,_,hq=>by simp at hq
 | _,_::_,[],h,_,_,_,_,_=>h.elim
 | k,q::qs,r::rs,h,i,q',h1,h2,hq=>by
  cases i with
  | zero=>simp at hq ⊢;rw [← hq];exact (h.1 h1 h2).symm
  | succ i=>
   have:=SameB.at (k+1) qs rs h.2 i q' (by rwa [show k+1+i=k+(i+1) by omega]) (by rwa [show k+1+i=k+(i+1) by omega]) (by simpa using hq);simpa using this
theorem rk_go {P:Program} {id:Nat} {l:List Oper} {Q:Exit→Act→World→Prop} {M:Nat→Prop} {n:Nat} {s0:St} {a:Act} {s:St} {Lp:Lst} {ι:Type} (hf:P.follows .mixedOrders=true) (e de m:Nat) (oe:Oper) (qsA:List Pd) (qsB:ι→List Pd) (Lq:ι→Lst) (C:ι→Prop) (low:Pd→Prop) (hL:Has M n s0 a s Lp)
  (hokA:zd0 l.toArray m n (Lp.map (·.1)) []=true) (hokB:∀i,zd0 l.toArray m n ((Lq i).map (·.1)) [e]=true) (hfresh:∀i,lk (Lq i) de=none) (hem:Nat.blt e m=true) (hm:Nat.ble m l.length=true) (htail:((List.range' m (l.toArray.size-m)).all fun i=>zfn l.toArray l.toArray.size i e)=true) (hqA:Nat.beq qsA.length m=true) (hqB:∀i,Nat.beq (qsB i).length m=true) (he:l.toArray[e]?=some oe) (hed:oe.dst=some de)
  (hAB:∀i,SameB l.toArray e 0 qsA (qsB i)) (hTA:zg0 P l.toArray qsA Lp e low 0 l qsA) (hTB:∀i,C i→zb9 P l.toArray (qsB i) (Lq i) [e] 0 l (qsB i))
  (hE:∀a s',Has M n s0 a s' (zh3 l.toArray qsA oe.after.toList Lp)→∀(K:Act→World→Prop),(∀v s'' i q,C i→(qsB i)[e]?=some q→q.p s'' v→Has M n s0 a s'' (Lq i)→(∀r u,low r→r.p s' u→r.p s'' u)→K (a.put (some de) v) s''.w)→wpList P l.toArray (Qn Q K) [oe] a s'.w)
  (hB:∀i,C i→∀a' s',Has M n s0 a' s' (zmp l.toArray (qsB i) m (Lq i))→wpList P l.toArray Q (l.drop m) a' s'.w):(Code.region id l.toArray true).wp P Q a s.w:=by
 refine rdf l.toArray.size hf hL rfl fun s1 e1 hL1=>?_;have hml:=Nat.le_of_ble_eq_true hm;have hes:e<l.length:=by
  have:=(Array.getElem?_eq_some_iff.1 he).1;simpa using this
 refine rk_key (s:=s1) e de m oe qsA qsB Lq C low hokA hokB hfresh (Nat.le_of_ble_eq_true hem) (by simpa using hml) htail (Nat.eq_of_beq_eq_true hqA) (fun i=>Nat.eq_of_beq_eq_true (hqB i)) he hed
  (fun i j q hj h1 h2 h3=>SameB.at 0 qsA (qsB i) (hAB i) j q (by simpa using h1) (by simpa using h2) h3) (fun j q hj h1 h2 h3=>?_) (fun j o q hj h1 h2 ho hq=>(zg0.at 0 l qsA hTA j o q (by simpa using ho) hq (by simpa using h1) (by simpa using h2)).1) (fun i hC j o q hj ho hq hF=>zb9.at 0 l (qsB i) (hTB i hC) j o q (by simpa using ho) hq (by simpa using hF)) hE (fun i hC a' s' hL'=>?_)
  _ _ _ _ (by simp) (by
  rw [List.filter_eq_self.2]
  ·simp
  ·intro i hi;simp at hi;simp [hi]) hL1 (fun i o h=>by simp [Array.getD] at h) (fun i hi _=>by simp at hi;simp [hi]) (by simp [hes]) (fun i hi h=>by simp [show i<l.length by omega] at h)
 ·obtain ⟨o,ho⟩:∃o,l[j]?=some o:=⟨l[j]'(by omega),by simp⟩;exact (zg0.at 0 l qsA hTA j o q ho h3 (by simpa using h1) (by simpa using h2)).2
 ·have:=hB i hC a' s' hL';rw [← wpOps_eq_wpList (l.drop m) m (fun j=>by simp)] at this;simpa using this
theorem callc_k {κ ν ι:Type} {K:En κ} {kv:κ→Value} {E:En ν} {Qi:ι→Prop} {q:ι→Pd} {ys:ι→List (κ × ν)} {P:Program} {ops:Array Oper} {o:Oper} {L L':Lst} {Q:Exit→Act→World→Prop} {M:Nat→Prop} {n:Nat} {s0:St} {a:Act} {s:St} {g:Nat} {f:FuncId} {zs:List Operand} {qs:List Pd} {ats:Array TypeId} {xs:List (κ × ν)} (d m:Nat) (hL:Has M n s0 a s L) (hf:Fc P f K kv E g xs qs Qi q ys) (hm:lk L m=some (Pd.mapc K kv E g xs)) (hMg:M g∨s0.w.heap.size≤g) (hx:zp5 L zs qs)
  (ho:o.op = .call { callee:=.value (.func f),args:=zs.toArray,argTypes:=ats }) (hg:o.guard=none) (hd:o.dst=some d) (hk:Kp (fun b=>some g=some b) L L') {KK:Act→World→Prop}
  (k:∀v s' i,Qi i→(q i).p s' v→Has M n s0 a s' ((m,Pd.mapc K kv E g (ys i))::L')→(∀(r:Pd) u,(∀b,r.own b→¬ some g=some b)→r.p s u→r.p s' u)→KK (a.put (some d) v) s'.w):wpList P ops (Qn Q KK) [o] a s.w:=by
 have hcall:=hf.call (zs.map a.eval).toArray s.w;have e:(execOp a.eval o).run P s.w = .ok (.enter f (zs.map a.eval).toArray) s.w:=by
  have e:execOp a.eval o=callFunc f (#[]++(zs.toArray).map a.eval ++ #[]):=by unfold execOp;rw [ho];rfl
  rw [e];simpa using hcall
 refine wpList_plain hg fun K hK=>?_;unfold Oper.wp;rw [e,Oper.upon_enter];refine (hf.run s _ hL.gls (hL.get m hm) (hx.vals hL)).mono fun en w' ⟨v,s',i,he,hw,hfr,hQ,hp,hmc⟩=>?_;subst he;subst hw;refine hK _ _ ?_;rw [hd];have hE:Ef (fun b=>some g=some b) s s':=⟨hfr.mv,fun b hb _=>hfr.keep b hb⟩;exact ol (k v s' i hQ hp ((hL.efg hE (fun b hb=>by cases hb;exact hMg) (fun b _ hb=>hfr.keep b hb) hk).cons m hmc) fun r u hr hru=>r.mv hE.mv (fun b hb=>⟨hr b hb,fun hx=>hfr.keep b hx⟩) hru)
end Go.Proofs.YtjdaaiodniicoaaGreatDoor.V
namespace Go.Proofs.YtjdaaiodniicoaaGreatDoor.V
open Go Go.MapKept
set_option linter.unusedVariables false
set_option maxRecDepth 100000
def En.ex {α:Type} (E:En α):En Unit where
 sz:=E.sz
 agg:=E.agg
 R:=fun w S cs _=>∃x,E.R w S cs x
 sc:=E.sc
 pos:=E.pos
 len:=fun ⟨_,h⟩=>E.len h
 one:=fun ⟨_,h⟩=>E.one h
 mono:=fun h ⟨x,hx⟩=>⟨x,E.mono h hx⟩
 move:=fun h ⟨x,hx⟩=>⟨x,E.move h hx⟩
abbrev SVal:Type:=Int × Int × Str × Int × List Unit
noncomputable abbrev EnVt (E:En Unit):En SVal:=En.cat (En.int .i64) (En.cat (En.int .u8) (En.cat En.str (En.cat (En.int .i64) (En.slice E))))
noncomputable def En.vt:Nat→En Unit
 | 0=>⟨5,true,fun _ _ _ _=>False,fun h=>(by cases h),by decide,fun h=>h.elim,fun h=>h.elim,fun _ h=>h,fun _ h=>h⟩
 | n+1=>En.ex (EnVt (En.vt n))
theorem vt_sz:∀n,(En.vt n).sz=5∧(En.vt n).agg=true
 | 0=>⟨rfl,rfl⟩
 | n+1=>⟨rfl,rfl⟩
theorem le_Vt {E F:En Unit} (h:Le E F):Le (EnVt E) (EnVt F):=(Le.refl _).cat ((Le.refl _).cat ((Le.refl _).cat ((Le.refl _).cat h.slice)))
theorem vt_succ:∀n,Le (En.vt n) (En.vt (n+1))
 | 0=>⟨rfl,rfl,fun h=>h.elim⟩
 | n+1=>⟨rfl,rfl,fun ⟨x,h⟩=>⟨x,(le_Vt (vt_succ n)).R h⟩⟩
theorem Le.trans {α:Type} {E F G:En α} (h:Le E F) (k:Le F G):Le E G:=⟨h.sz.trans k.sz,h.agg.trans k.agg,fun r=>k.R (h.R r)⟩
theorem vt_mono {n:Nat}:∀k,Le (En.vt n) (En.vt (n+k))
 | 0=>Le.refl _
 | k+1=>(vt_mono k).trans (vt_succ (n+k))
noncomputable def En.vtw:En Unit where
 sz:=5
 agg:=true
 R:=fun w S cs x=>∃n,(En.vt n).R w S cs x
 sc:=fun h=>by cases h
 pos:=by decide
 len:=fun ⟨n,h⟩=>by rw [(En.vt n).len h,(vt_sz n).1]
 one:=fun ⟨n,h⟩=>(En.vt n).one h
 mono:=fun h ⟨n,k⟩=>⟨n,(En.vt n).mono h k⟩
 move:=fun h ⟨n,k⟩=>⟨n,(En.vt n).move h k⟩
theorem le_vtw (n:Nat):Le (En.vt n) En.vtw:=⟨(vt_sz n).1,(vt_sz n).2,fun h=>⟨n,h⟩⟩
theorem els_vt {w:World} {S:Nat→Prop}:∀{xs:List Unit} {css:List (List Value)},Els En.vtw w S css xs→∃n,Els (En.vt n) w S css xs
 | [],css,h=>⟨0,h.1,fun i cs x _ hx=>by simp at hx⟩
 | x::xs,css,h=>by
  match css,h with
  | [],h=>cases h.1
  | cs::css,h=>
   obtain ⟨n,hn⟩:=els_vt (xs:=xs) (css:=css) ⟨by simpa using h.1,fun i c x a b=>h.2 (i+1) c x (by simpa using a) (by simpa using b)⟩;obtain ⟨m,hm⟩:=h.2 0 cs x rfl rfl;have k1:Le (En.vt n) (En.vt (n+m)):=vt_mono m;have k2:Le (En.vt m) (En.vt (n+m)):=by rw [Nat.add_comm];exact vt_mono n
   refine ⟨n+m,h.1,fun i c y a b=>?_⟩;cases i with
   | zero=>simp at a b;subst a;exact k2.R hm
   | succ i=>exact k1.R (hn.2 i c y (by simpa using a) (by simpa using b))
theorem slice_vt {w:World} {S:Nat→Prop} {cs:List Value} {xs:List Unit} (h:(En.slice En.vtw).R w S cs xs):∃n,(En.slice (En.vt n)).R w S cs xs:=by
 obtain ⟨v,e,ad,cap,hv,h1,h2,h3,h4⟩:=h
 by_cases hn:xs=[]
 ·exact ⟨0,v,e,ad,cap,hv,h1,h2,h3,fun h=>absurd hn h⟩
 ·obtain ⟨b,off,css,k1,k2,k3,k4⟩:=h4 hn;obtain ⟨n,hE⟩:=els_vt k3;exact ⟨n,v,e,ad,cap,hv,h1,h2,h3,fun _=>⟨b,off,css,k1,k2,hE,k4⟩⟩
theorem vtw_open {w:World} {S:Nat→Prop} {cs:List Value} {u:Unit} (h:En.vtw.R w S cs u):∃x,(EnVt En.vtw).R w S cs x:=by
 obtain ⟨n,h⟩:=h;cases n with
 | zero=>exact h.elim
 | succ n=>obtain ⟨x,hx⟩:=h;exact ⟨x,(le_Vt (le_vtw n)).R hx⟩
theorem vtw_shut {w:World} {S:Nat→Prop} {cs:List Value} {x:SVal} (u:Unit) (h:(EnVt En.vtw).R w S cs x):En.vtw.R w S cs u:=by
 obtain ⟨a,b,e,h1,c,d,e2,h2,f,g,e3,h3,i,j,e4,h4,h5⟩:=h;obtain ⟨n,h6⟩:=slice_vt h5;exact ⟨n+1,x,a,b,e,h1,c,d,e2,h2,f,g,e3,h3,i,j,e4,h4,h6⟩
section
variable {M : Nat → Prop} {n : Nat} {s0 : St} {a : Act} {s : St} {L : Lst}
theorem Has.vopen (h:Has M n s0 a s L) (d:Nat) {u:Unit} (hl:lk L d=some (Pd.rep En.vtw u)):∃x,Has M n s0 a s ((d,Pd.rep (EnVt En.vtw) x)::L):=by
 obtain ⟨cs,hv,hR⟩:=h.get d hl;obtain ⟨x,hx⟩:=vtw_open hR;exact ⟨x,h.cons d ⟨cs,hv,hx⟩⟩
theorem Has.vopenn (h:Has M n s0 a s L) (d:Nat) {k:Nat} {u:Unit} (hl:lk L d=some (Pd.rep (En.vt (k+1)) u)):∃x,Has M n s0 a s ((d,Pd.rep (EnVt (En.vt k)) x)::L):=by
 obtain ⟨cs,hv,x,hx⟩:=h.get d hl;exact ⟨x,h.cons d ⟨cs,hv,hx⟩⟩
theorem o_vt {y:Operand} {x:SVal} {u:Unit} (h:Opn L y (Pd.rep (EnVt En.vtw) x)):Opn L y (Pd.rep En.vtw u):=fun M n s0 a s hL=>by
 obtain ⟨cs,hv,hR⟩:=h M n s0 a s hL;exact ⟨cs,hv,vtw_shut u hR⟩
end
def En.pt {α:Type} (E:En α):En α where
 sz:=1
 agg:=false
 R:=fun w S cs x=>∃b o cs',cs=[.pointer (some ⟨b,o,none⟩)]∧S b∧ze2 w b o cs'∧E.R w S cs' x
 sc:=fun _=>rfl
 pos:=Nat.one_pos
 len:=by rintro _ _ _ _ ⟨_,_,_,rfl,_⟩;rfl
 one:=by rintro _ _ _ _ ⟨_,_,_,rfl,_⟩ u hu;simp at hu;subst hu;rfl
 mono:=fun h ⟨b,o,cs',e,hb,hc,hR⟩=>⟨b,o,cs',e,h b hb,hc,E.mono h hR⟩
 move:=fun h ⟨b,o,cs',e,hb,hc,hR⟩=>⟨b,o,cs',e,hb,hc.same (h b hb),E.move h hR⟩
theorem pt_iff {α:Type} {E:En α} {x:α} {s:St} {v:Value}:(Pd.rep (En.pt E) x).p s v↔(Pd.ptr E x).p s v:=
 ⟨fun ⟨_,hv,b,o,cs',e,hb,hc,hR⟩=>by subst e;exact ⟨b,o,cs',hv,hb,hc,hR⟩,fun ⟨b,o,cs',hv,hb,hc,hR⟩=>⟨[.pointer (some ⟨b,o,none⟩)],hv,b,o,cs',rfl,hb,hc,hR⟩⟩
theorem o_pt {α:Type} {E:En α} {x:α} {L:Lst} {y:Operand} (h:Opn L y (Pd.ptr E x)):Opn L y (Pd.rep (En.pt E) x):=fun M n s0 a s hL=>pt_iff.2 (h M n s0 a s hL)
theorem o_tp {α:Type} {E:En α} {x:α} {L:Lst} {y:Operand} (h:Opn L y (Pd.rep (En.pt E) x)):Opn L y (Pd.ptr E x):=fun M n s0 a s hL=>pt_iff.1 (h M n s0 a s hL)
def Pd.fv (f:FuncId) (cs:List Pd) (hcs:∀q∈cs,q.Enc):Pd:=
 ⟨fun s v=>∃vs:List Value,v = .func (.func f) #[] vs.toArray∧Vals s cs vs,fun _=>False,fun {T s s' v} h _ ⟨vs,hv,hvs⟩=>⟨vs,hv,zna (fun b hb=>⟨Nat.lt_of_lt_of_le hb.1 h.size,fun hx=>(h.xx b hx).elim hb.2 (fun hk=>by have:=hb.1;omega)⟩) (fun b hb=>h.blk b hb.1 (fun ht=>hb.2 (h.tx b ht))) hcs hvs⟩⟩
section
variable {P : Program} {ops : Array Oper} {o : Oper} {L L' : Lst} {f : FuncId} {cs : List Pd} {hcs : ∀ q ∈ cs,q.Enc}
theorem zqb {xs:List Operand} (hx:zp5 L xs cs) (ho:o.op = .makeFunc (.func f) #[] xs.toArray) (hg:o.guard=none):T P ops o L (Pd.fv f cs hcs):=
 T.pure hg fun M n s0 a s hL=>by
  refine ⟨.func (.func f) #[] (xs.map a.eval).toArray, ?_,xs.map a.eval,rfl,hx.vals hL⟩;unfold execOp;rw [ho];simp [Instr.makeFunc]
theorem run_fv {t:Nat} {xs:List Operand} {ats:Array TypeId} (hc:∀(args:Array Value) (w:World),(callFunc f args).run P w = .ok (.enter f args) w) {a:Act} {vs:List Value} (w:World) (hv:a.eval (.tmp t) = .func (.func f) #[] vs.toArray) (ho:o.op = .call { callee:=.value (.tmp t),args:=xs.toArray,argTypes:=ats }):
  (execOp a.eval o).run P w = .ok (.enter f (xs.map a.eval++vs).toArray) w:=by
 have e1:execOp a.eval o=(do let d ← Deferred.ofValue (a.eval (.tmp t)) (xs.toArray.map a.eval);invoke d.target d.args):=by
  unfold execOp;rw [ho];rfl
 rw [e1,hv];have:=hc (xs.map a.eval++vs).toArray w;simpa [Deferred.ofValue,invoke] using this
theorem t_callv {t:Nat} {xs:List Operand} {qs:List Pd} {q:Pd} {ats:Array TypeId} (hv:Opn L (.tmp t) (Pd.fv f cs hcs)) (hf:Fn P f (qs++cs) (Rq q)) (hx:zp5 L xs qs) (ho:o.op = .call { callee:=.value (.tmp t),args:=xs.toArray,argTypes:=ats }) (hg:o.guard=none):T P ops o L q:=fun M n s0 a s hL Q k hk=>by
 simp only [Region.wanted,hg,if_true];obtain ⟨vs,hv,hvs⟩:=hv M n s0 a s hL;unfold Oper.wp;rw [run_fv hf.call s.w hv ho,Oper.upon_enter];refine (hf.run s _ hL.gls (zk1 (hx.vals hL) hvs)).mono fun e w' ⟨v,s',he,hw,hx,hq⟩=>?_;subst he;subst hw;exact hk v s' ⟨hx,hq⟩
section
variable {κ ν ι : Type} {K : En κ} {kv : κ → Value} {E : En ν} {Qi : ι → Prop} {q : ι → Pd} {ys : ι → List (κ × ν)} {Q : Exit → Act → World → Prop} {rest : List Oper} {M : Nat → Prop} {n : Nat} {s0 : St} {a : Act} {s : St} {g : Nat}
theorem st_callcv {t:Nat} {zs:List Operand} {qs:List Pd} {ats:Array TypeId} {xs:List (κ × ν)} (d m:Nat) (hL:Has M n s0 a s L) (hv:Opn L (.tmp t) (Pd.fv f cs hcs)) (hf:Fc P f K kv E g xs (qs++cs) Qi q ys) (hm:lk L m=some (Pd.mapc K kv E g xs)) (hMg:M g∨s0.w.heap.size≤g) (hx:zp5 L zs qs)
  (ho:o.op = .call { callee:=.value (.tmp t),args:=zs.toArray,argTypes:=ats }) (hg:o.guard=none) (hd:o.dst=some d) (hn:Nat.blt d n=true) (hk:Kp (fun b=>some g=some b) L L')
  (k:∀a' s' i,Qi i→Has M n s0 a' s' ((d,q i)::(m,Pd.mapc K kv E g (ys i))::L')→wpList P ops Q rest a' s'.w):wpList P ops Q (o::rest) a s.w:=by
 obtain ⟨vs,hv,hvs⟩:=hv M n s0 a s hL;refine wpList_plain hg fun K hK=>?_;unfold Oper.wp;rw [run_fv hf.call s.w hv ho,Oper.upon_enter];refine (hf.run s _ hL.gls (hL.get m hm) (zk1 (hx.vals hL) hvs)).mono fun en w' ⟨v,s',i,he,hw,hfr,hQ,hp,hmc⟩=>?_;subst he;subst hw;refine hK _ _ ?_;rw [hd];have hE:Ef (fun b=>some g=some b) s s':=⟨hfr.mv,fun b hb _=>hfr.keep b hb⟩;exact k _ s' i hQ (((hL.efg hE (fun b hb=>by cases hb;exact hMg) (fun b _ hb=>hfr.keep b hb) hk).cons m hmc).put' hn hp)
end
end
def zkd (x:Int × Int × Int × Int × Int):List Value:=[.int .i64 x.1,.int .i64 x.2.1,.int .i64 x.2.2.1,.int .i64 x.2.2.2.1,.int .i64 x.2.2.2.2]
def In5 (x:Int × Int × Int × Int × Int):Prop:=InR .i64 x.1∧InR .i64 x.2.1∧InR .i64 x.2.2.1∧InR .i64 x.2.2.2.1∧InR .i64 x.2.2.2.2
abbrev Tsk:Type:={x:Int × Int × Int × Int × Int // In5 x}
def En.tsk:En Tsk where
 sz:=5
 agg:=true
 R:=fun _ _ cs x=>cs=zkd x.1
 sc:=fun h=>by cases h
 pos:=by decide
 len:=by rintro _ _ _ _ rfl;rfl
 one:=by rintro _ _ _ _ rfl u hu;simp [zkd] at hu;rcases hu with rfl | rfl | rfl | rfl | rfl <;> rfl
 mono:=fun _ h=>h
 move:=fun _ h=>h
abbrev kvTsk:Tsk→Value:=fun x=>.agg (zkd x.1).toArray
theorem kvTsk_inj {x y:Tsk} (h:kvTsk x=kvTsk y):x=y:=by
 simp only [kvTsk,zkd,Value.agg.injEq] at h;have h':=congrArg Array.toList h;simp only [List.cons.injEq,Value.int.injEq,true_and,and_true] at h';obtain ⟨e0,e1,e2,e3,e4⟩:=h';exact Subtype.ext (Prod.ext e0 (Prod.ext e1 (Prod.ext e2 (Prod.ext e3 e4))))
theorem zj4 {P:Program} {kt e:TypeId} {fs:Array Field} (ht:P.underlying kt=some (.struct fs)) (he:P.underlying e=some (.int .i64)) (hfs:fs.toList.map (fun f=>(f.type,f.offset))=[(e,0),(e,1),(e,2),(e,3),(e,4)]) (hnm:(fs.all fun f=>f.name != "_")=true)
  (hct:P.cellsOf kt=5) (hce:P.cellsOf e=1) (hk:P.keyType kt=true) (hts:∃m,P.types.size=m+1) (x:Tsk):∃l,keyOf P kt (kvTsk x)=some l:=by
 obtain ⟨m,hm⟩:=hts;obtain ⟨⟨x0,x1,x2,x3,x4⟩,h0,h1,h2,h3,h4⟩:=x;have hf:(Value.agg (zkd (x0,x1,x2,x3,x4)).toArray).formed P kt=true:=by
  simp [Value.formed,ht,hct,zkd]
 have one:∀y:Int,InR .i64 y→P.keyLits (m+1) e [.int .i64 y]=some [.int .i64 y]:=fun y hy=>by
  have:(Lit.int .i64 y).wf=true:=by simpa [Lit.wf,InR] using hy
  simp [Program.keyLits,he,this]
 have hl:P.keyLits (P.types.size+1) kt (zkd (x0,x1,x2,x3,x4))=some [.int .i64 x0,.int .i64 x1,.int .i64 x2,.int .i64 x3,.int .i64 x4]:=by
  rw [hm];have l5:(zkd (x0,x1,x2,x3,x4)).length=5:=rfl;rw [Program.keyLits.eq_def];simp only [ht];rw [if_pos ⟨by rw [l5,hct],hnm⟩];have em:(fs.toList.mapM fun f=>P.keyLits (m+1) f.type (((zkd (x0,x1,x2,x3,x4)).drop f.offset).take (P.cellsOf f.type)))=(fs.toList.map (fun f=>(f.type,f.offset))).mapM fun p=>P.keyLits (m+1) p.1 (((zkd (x0,x1,x2,x3,x4)).drop p.2).take (P.cellsOf p.1)):=by
   rw [List.mapM_map];rfl
  rw [em,hfs];have c0:((zkd (x0,x1,x2,x3,x4)).drop 0).take 1=[.int .i64 x0]:=rfl;have c1:((zkd (x0,x1,x2,x3,x4)).drop 1).take 1=[.int .i64 x1]:=rfl;have c2:((zkd (x0,x1,x2,x3,x4)).drop 2).take 1=[.int .i64 x2]:=rfl;have c3:((zkd (x0,x1,x2,x3,x4)).drop 3).take 1=[.int .i64 x3]:=rfl;have c4:((zkd (x0,x1,x2,x3,x4)).drop 4).take 1=[.int .i64 x4]:=rfl;simp only [hce,List.mapM_cons,List.mapM_nil,c0,c1,c2,c3,c4,one x0 h0,one x1 h1,one x2 h2,one x3 h3,one x4 h4];rfl
 refine ⟨.string (keyBytes [.int .i64 x0,.int .i64 x1,.int .i64 x2,.int .i64 x3,.int .i64 x4]), ?_⟩;unfold keyOf;rw [ht];simp only [hk,hf,Bool.and_self,if_true,kvTsk,Value.cells,hl,Option.map_some]
theorem key_tsk {P:Program} {kt e:TypeId} {fs:Array Field} (ht:P.underlying kt=some (.struct fs)) (he:P.underlying e=some (.int .i64)) (hfs:fs.toList.map (fun f=>(f.type,f.offset))=[(e,0),(e,1),(e,2),(e,3),(e,4)]) (hnm:(fs.all fun f=>f.name != "_")=true)
  (hct:P.cellsOf kt=5) (hce:P.cellsOf e=1) (hk:P.keyType kt=true) (hts:∃m,P.types.size=m+1) (hk2:P.keyTypeAt 2 kt=true) (htl:P.tiled 2 kt=true):KeyT P kt En.tsk kvTsk where
 val:=fun h=>by cases h;rfl
 inj:=kvTsk_inj
 check:=fun w em x=>by
  obtain ⟨l,hl⟩:=zj4 ht he hfs hnm hct hce hk hts x;exact (deep_law (m:=2) (by decide) hk2 htl (by rw [ht])).check w em hl
 find:=fun w x es hes=>by
  obtain ⟨l,hl⟩:=zj4 ht he hfs hnm hct hce hk hts x;exact (deep_law (m:=2) (by decide) hk2 htl (by rw [ht])).find w hl es fun e' he'=>by
   obtain ⟨y,hy⟩:=hes e' he';rw [hy];exact zj4 ht he hfs hnm hct hce hk hts y
 stays:=fun w x=>by
  obtain ⟨l,hl⟩:=zj4 ht he hfs hnm hct hce hk hts x;exact (deep_law (m:=2) (by decide) hk2 htl (by rw [ht])).stays w hl
end Go.Proofs.YtjdaaiodniicoaaGreatDoor.V
namespace Go.Proofs.YtjdaaiodniicoaaGreatDoor.V
open Go
set_option linter.unusedVariables false
theorem dt {p:Prop} [Decidable p] (h:decide p=true):p:=of_decide_eq_true h
theorem df {p:Prop} [Decidable p] (h:decide p=false):¬ p:=of_decide_eq_false h
theorem zh8 {σ:Type} {P:Nat→σ→Int→Prop} (n:Nat) (I:Nat→σ→Prop)
  (hs:∀i s,i<n→I i s→(∀k,P (k+1) s (i:Int))∨∃s',I (i+1) s'∧∀k,P k s' ((i:Int)+1)→P (k+1) s (i:Int))
  (hx:∀s,I n s→∀k,P (k+1) s (n:Int)) (s:σ) (h:I 0 s):∃k,P k s 0:=by
 have:∀m i s,i+m=n→I i s→∃k,P k s (i:Int):=by
  intro m
  induction m with
  | zero=>intro i s hi hI;have:i=n:=by omega
          subst this;exact ⟨1,hx s hI 0⟩
  | succ m ih=>
   intro i s hi hI;rcases hs i s (by omega) hI with h | ⟨s',h1,h2⟩
   ·exact ⟨1,h 0⟩
   ·obtain ⟨k,hk⟩:=ih (i+1) s' (by omega) h1;exact ⟨k+1,h2 k (by simpa using hk)⟩
 simpa using this n 0 s (by omega) h
theorem run {σ:Type} {P:Nat→σ→Prop} (I:σ→Prop) (μ:σ→Nat) (h:∀s,I s→(∀k,P (k+1) s)∨∃s',I s'∧μ s' < μ s∧∀k,P k s'→P (k+1) s) (s:σ) (hI:I s):∃k,P k s:=by
 have:∀m s,μ s<m→I s→∃k,P k s:=by
  intro m
  induction m with
  | zero=>intro s hs;omega
  | succ m ih=>
   intro s hs hI;rcases h s hI with h1 | ⟨s',h1,h2,h3⟩
   ·exact ⟨1,h1 0⟩
   ·obtain ⟨k,hk⟩:=ih s' (by omega) h1;exact ⟨k+1,h3 k hk⟩
 exact this (μ s+1) s (by omega) hI
theorem zi {x:Int} (h1:-9223372036854775808≤x) (h2:x≤9223372036854775807):InR .i64 x:=zjo.2 ⟨h1,h2⟩
theorem zbm {α:Type} {xs:List α} {i:Nat}:at? xs (i:Int)=xs[i]?:=by
 unfold at?;rw [if_pos (by omega)];simp
def Cl.put (a:Cl) (n:Nat):Cl:=a ||| BitVec.twoPow 256 n
theorem has_put {a:Cl} {n m:Nat} (hn:n<256):(a.put n).has m=(a.has m||decide (n=m)):=by
 unfold Cl.put Cl.has;rw [BitVec.getLsbD_or,BitVec.getLsbD_twoPow];simp [hn]
theorem zky {a b:Cl} {m:Nat}:(a &&& b).has m=(a.has m&&b.has m):=BitVec.getLsbD_and
theorem zo2 {a:Cl} {m:Nat} (h:m<256):(~~~ a).has m = !a.has m:=by
 unfold Cl.has;rw [BitVec.getLsbD_not];simp [h]
theorem has_zero {m:Nat}:Cl.has (0#256) m=false:=by simp [Cl.has]
theorem w_nat (a:Cl) (i:Int):(Cl.w a i).toNat=a.word i.toNat:=by simp [Cl.w]
theorem has_w {a:Cl} {n:Nat} (h:n<256):a.has n=(a.word (n / 64)).testBit (n % 64):=by
 rw [Cl.word_bit];simp [Nat.mod_lt,Nat.div_add_mod]
theorem zn9 {a:Cl} {i:Nat} {v:Int} (hv:v.toNat<2 ^ 64) (j:Nat) (hj:j<4):(a.setw (i:Int) v).word j=if j=i then v.toNat else a.word j:=by
 unfold Cl.setw;have hw:∀k,a.word k<2 ^ 64:=a.word_lt;have hb:∀(c:Prop) [Decidable c] (k:Nat),(if c then v.toNat else a.word k)<2 ^ 64:=fun c _ k=>by split <;> simp_all
 obtain ⟨h0,h1,h2,h3⟩:=Cl.ofWords_word (hb ((i:Int)=0) 0) (hb ((i:Int)=1) 1) (hb ((i:Int)=2) 2) (hb ((i:Int)=3) 3)
 match j,hj with
 | 0,_=>rw [h0];split <;> split <;> first | rfl | omega
 | 1,_=>rw [h1];split <;> split <;> first | rfl | omega
 | 2,_=>rw [h2];split <;> split <;> first | rfl | omega
 | 3,_=>rw [h3];split <;> split <;> first | rfl | omega
theorem has_setw {a:Cl} {i:Nat} {v:Int} (hv:v.toNat<2 ^ 64) {n:Nat} (hn:n<256):(a.setw (i:Int) v).has n=if n / 64=i then v.toNat.testBit (n % 64) else a.has n:=by
 rw [has_w hn,zn9 hv _ (by omega),has_w hn];split <;> rfl
theorem shr_bit {w k:Nat} (hk:k<64):(andI (zqk (w:Int) (k:Int)) 1==1)=w.testBit k:=by
 unfold andI zqk;rw [show min ((k:Int)).toNat 64=k by simp;omega];have h:((w:Int) / 2 ^ k).toNat=w / 2 ^ k:=by
  rw [show ((2:Int) ^ k)=((2 ^ k:Nat):Int) by simp,← Int.natCast_ediv];exact Int.toNat_natCast _
 rw [h];simp only [Int.toNat_one,Nat.and_one_is_mod,Nat.testBit_eq_decide_div_mod_eq];have:=Nat.mod_two_eq_zero_or_one (w / 2 ^ k);rcases this with h | h <;> rw [h] <;> rfl
theorem shl_one {k:Nat} (hk:k<64):shlI 1 (k:Int)=((2 ^ k:Nat):Int):=by
 unfold shlI;rw [show min ((k:Int)).toNat 64=k by simp;omega,Int.one_mul];have:2 ^ k<2 ^ 64:=Nat.pow_lt_pow_right (by omega) hk;rw [show ((2:Int) ^ k)=((2 ^ k:Nat):Int) by simp];generalize 2 ^ k=q at *;omega
theorem put_words {a:Cl} {n:Nat} (hn:n<256):a.setw ((n / 64:Nat):Int) (orI (Cl.w a ((n / 64:Nat):Int)) (shlI 1 ((n % 64:Nat):Int)))=a.put n:=by
 apply Cl.ext;intro c hc;have hlt:(orI (Cl.w a ((n / 64:Nat):Int)) (shlI 1 ((n % 64:Nat):Int))).toNat=a.word (n / 64) ||| 2 ^ (n % 64):=by
  rw [shl_one (Nat.mod_lt _ (by omega))];unfold orI;rw [w_nat,Int.toNat_natCast,Int.toNat_natCast,Int.toNat_natCast]
 have hb:a.word (n / 64) ||| 2 ^ (n % 64)<2 ^ 64:=Nat.or_lt_two_pow (a.word_lt _) (Nat.pow_lt_pow_right (by omega) (Nat.mod_lt _ (by omega)))
 rw [has_setw (by rw [hlt];exact hb) hc,hlt,has_put hn];split
 ·rename_i h
  rw [Nat.testBit_or,Nat.testBit_two_pow,← h,← has_w hc]
  congr 1
  apply decide_eq_decide.2;omega
 ·rename_i h
  rw [show decide (n=c)=false by simp;intro e;subst e;exact h rfl];simp
def Cl.row (f t:Int):Cl:=Cl.of fun n=>decide (f≤(n:Int))&&decide ((n:Int)≤t)
theorem zkx {f t:Int} {n:Nat} (h:n<256):(Cl.row f t).has n=(decide (f≤(n:Int))&&decide ((n:Int)≤t)):=Cl.of_has _ h
def Cl.least (a:Cl):Int × Bool:=match (List.range 256).find? a.has with
 | some n=>((n:Int),true)
 | none=>(0,false)
def Cl.count (a:Cl):Nat:=(List.range 256).countP a.has
def Cl.addL (a:Cl) (l:List Int):Cl:=l.foldl (fun a c=>a.put c.toNat) a
theorem u8_of {c:Int} (h:InR .u8 c):∃n:Nat,n<256∧c=n:=by
 rw [zfm] at h;exact ⟨c.toNat,by omega,by omega⟩
theorem u8_nat {n:Nat} (h:n<256):InR .u8 (n:Int):=zfm.2 ⟨by omega,by omega⟩
theorem least_some {a:Cl} {n:Nat} (h:a.least=((n:Int),true)):n<256∧a.has n=true∧∀m,m<n→a.has m=false:=by
 unfold Cl.least at h;split at h
 ·rename_i k hk
  have e:k=n:=by have h2:=(Prod.mk.inj h).1;omega
  subst e;rw [List.find?_eq_some_iff_getElem] at hk;obtain ⟨h1,i,h2,h3,h4⟩:=hk;simp at h2 h3;subst h3;refine ⟨h2,h1,fun m hm=>?_⟩;have:=h4 m hm;simpa using this
 ·simp at h
theorem least_none {a:Cl} (h:a.least.2=false):∀m,m<256→a.has m=false:=by
 unfold Cl.least at h;split at h
 ·simp at h
 ·rename_i hk
  intro m hm;have:=List.find?_eq_none.1 hk m (by simpa using hm);simpa using this
theorem least_of {a:Cl} {n:Nat} (hn:n<256) (h1:a.has n=true) (h2:∀m,m<n→a.has m=false):a.least=((n:Int),true):=by
 have:(List.range 256).find? a.has=some n:=by
  rw [List.find?_eq_some_iff_getElem];exact ⟨h1,n,by simpa using hn,by simp,fun j hj=>by simp [h2 j hj]⟩
 simp [Cl.least,this]
theorem zim {a:Cl} (h:∀m,m<256→a.has m=false):a.least=(0,false):=by
 have:(List.range 256).find? a.has=none:=by
  rw [List.find?_eq_none];intro m hm;simp [h m (by simpa using hm)]
 simp [Cl.least,this]
def Cl.ofL (l:List Bool):Cl:=Cl.of fun n=>l.getD n false
theorem has_ofL {l:List Bool} {n:Nat} (h:n<256):(Cl.ofL l).has n=l.getD n false:=Cl.of_has _ h
open Go.MapKept
set_option maxRecDepth 100000
noncomputable abbrev EnRd:En (SDesc × List Int × Option Nat):=En.cat En.SDesc (En.cat (En.slice (En.int .u8)) En.mref)
noncomputable abbrev EnTk:En (Int × Int × Int × Int × Int):=En.cat (En.int .i64) (En.cat (En.int .i64) (En.cat (En.int .i64) (En.cat (En.int .i64) (En.int .i64))))
noncomputable abbrev EnKs:En (List Unit):=En.slice En.vtw
theorem zq2:Ty Tryz.prog 178 (En.pt EnRd):=⟨⟨_,_,rfl,rfl,rfl,rfl,by decide⟩,_,rfl,rfl⟩
theorem tyW:Ty Tryz.prog 29 (En.slice (En.int .u8)):=⟨⟨_,_,rfl,rfl,rfl,rfl,by decide⟩,_,rfl,rfl⟩
theorem tyMr:Ty Tryz.prog 179 En.mref:=⟨⟨_,_,rfl,rfl,rfl,rfl,by decide⟩,_,rfl,rfl⟩
theorem tyzRd:TyZ Tryz.prog 181 EnRd (([],[],none):SDesc × List Int × Option Nat):=⟨_,_,([.slice none 0 0]++([.slice none 0 0]++[.map none])),rfl,rfl,by rfl,fun _ _=>⟨[.slice none 0 0],[.slice none 0 0,.map none],rfl,⟨_,rfl,zcx _ _ _⟩,[.slice none 0 0],[.map none],rfl,⟨_,rfl,zcx _ _ _⟩,rfl⟩⟩
theorem sttRd:Stt Tryz.prog 181 [(0,1),(1,1),(2,1)]:=⟨_,Tryz.underlying181,by kernel_rfl⟩
theorem tyTk:Ty Tryz.prog 184 EnTk:=⟨⟨_,_,rfl,rfl,rfl,rfl,by decide⟩,_,rfl,rfl⟩
theorem tyzTk:TyZ Tryz.prog 184 EnTk ((0,0,0,0,0):Int × Int × Int × Int × Int):=⟨_,_,([.int .i64 0]++([.int .i64 0]++([.int .i64 0]++([.int .i64 0]++[.int .i64 0])))),rfl,rfl,by rfl,fun _ _=>⟨_,_,rfl,⟨rfl,by decide⟩,_,_,rfl,⟨rfl,by decide⟩,_,_,rfl,⟨rfl,by decide⟩,_,_,rfl,⟨rfl,by decide⟩,⟨rfl,by decide⟩⟩⟩
theorem sttTk:Stt Tryz.prog 184 [(0,1),(1,1),(2,1),(3,1),(4,1)]:=⟨_,Tryz.underlying184,by kernel_rfl⟩
theorem tyVt {E:En Unit}:Ty Tryz.prog 257 (EnVt E):=⟨⟨_,_,rfl,rfl,rfl,rfl,by decide⟩,_,rfl,rfl⟩
theorem zhq:Ty Tryz.prog 257 En.vtw:=⟨⟨_,_,rfl,rfl,rfl,rfl,by decide⟩,_,rfl,rfl⟩
theorem tyVn (n:Nat):Ty Tryz.prog 257 (En.vt n):=zhq.as (vt_sz n).1.symm (vt_sz n).2.symm
theorem tyKs {E:En Unit}:Ty Tryz.prog 143 (En.slice E):=⟨⟨_,_,rfl,rfl,rfl,rfl,by decide⟩,_,rfl,rfl⟩
theorem rVt0 {E:En Unit} (w:World) (S:Nat→Prop):(EnVt E).R w S ([.int .i64 0]++([.int .u8 0]++([.string ⟨#[]⟩]++([.int .i64 0]++[.slice none 0 0])))) (0,0,[],0,[]):=⟨_,_,rfl,⟨rfl,by decide⟩,_,_,rfl,⟨rfl,by decide⟩,_,_,rfl,⟨rfl,by decide⟩,_,_,rfl,⟨rfl,by decide⟩,⟨_,rfl,zcx _ _ _⟩⟩
theorem tyzVt {E:En Unit}:TyZ Tryz.prog 257 (EnVt E) ((0,0,[],0,[]):SVal):=⟨_,_,_,rfl,rfl,by rfl,fun _ _=>rVt0 _ _⟩
theorem tyzVn (n:Nat):TyZ Tryz.prog 257 (En.vt (n+1)) ():=⟨_,_,_,rfl,rfl,by rfl,fun _ _=>⟨_,rVt0 _ _⟩⟩
theorem tyzVw:TyZ Tryz.prog 257 En.vtw ():=⟨_,_,_,rfl,rfl,by rfl,fun _ _=>⟨1,_,rVt0 _ _⟩⟩
theorem sttVt:Stt Tryz.prog 257 [(0,1),(1,1),(2,1),(3,1),(4,1)]:=⟨_,Tryz.underlying257,by kernel_rfl⟩
theorem tyvKs:TyV Tryz.prog 143 EnKs ([]:List Unit):=⟨_,[.slice none 0 0],rfl,by rfl,fun _ _=>⟨_,rfl,zcx _ _ _⟩⟩
theorem keyTsk:KeyT Tryz.prog 184 En.tsk kvTsk:=key_tsk Tryz.underlying184 Tryz.underlying3 (by kernel_rfl) (by kernel_rfl) (by kernel_rfl) (by kernel_rfl) (by kernel_rfl) ⟨_,rfl⟩ (by kernel_rfl) (by kernel_rfl)
theorem tk_iff {x:Tsk} {w:World} {S:Nat→Prop} {cs:List Value}:EnTk.R w S cs x.1↔En.tsk.R w S cs x:=by
 obtain ⟨⟨x0,x1,x2,x3,x4⟩,h0,h1,h2,h3,h4⟩:=x;refine ⟨fun ⟨a,b,e,⟨e1,_⟩,c,d,e2,⟨e3,_⟩,f,g,e4,⟨e5,_⟩,i,j,e6,⟨e7,_⟩,e8,_⟩=>?_,fun h=>?_⟩
 ·subst e8;subst e7;subst e6;subst e5;subst e4;subst e3;subst e2;subst e1;subst e;rfl
 ·have h':cs=zkd (x0,x1,x2,x3,x4):=h;subst h';exact ⟨[_],[_,_,_,_],rfl,⟨rfl,h0⟩,[_],[_,_,_],rfl,⟨rfl,h1⟩,[_],[_,_],rfl,⟨rfl,h2⟩,[_],[_],rfl,⟨rfl,h3⟩,⟨rfl,h4⟩⟩
theorem rep_tk {x:Tsk} {s:St} {v:Value}:(Pd.rep EnTk x.1).p s v↔(Pd.rep En.tsk x).p s v:=⟨fun ⟨cs,hv,h⟩=>⟨cs,hv,tk_iff.1 h⟩,fun ⟨cs,hv,h⟩=>⟨cs,hv,tk_iff.2 h⟩⟩
theorem o_tsk {L:Lst} {y:Operand} {x:Tsk} (h:Opn L y (Pd.rep EnTk x.1)):Opn L y (Pd.rep En.tsk x):=fun M n s0 a s hL=>rep_tk.1 (h M n s0 a s hL)
def Pd.bl:Pd:=⟨fun _ v=>∃b,v = .bool b,fun _=>False,fun _ _ h=>h⟩
theorem Has.blopen {M:Nat→Prop} {n:Nat} {s0:St} {a:Act} {s:St} {L:Lst} (h:Has M n s0 a s L) (d:Nat) (hl:lk L d=some Pd.bl):∃b,Has M n s0 a s ((d,Pd.rep En.bool b)::L):=by
 obtain ⟨b,hb⟩:=h.get d hl;exact ⟨b,h.cons d (zch.2 hb)⟩
theorem t_andbl {P:Program} {ops:Array Oper} {o:Oper} {L:Lst} {x y:Operand} {a:Bool} (hx:Opn L x (Pd.rep En.bool a)) (hy:a=true→Opn L y Pd.bl) (ho:o.op = .pick x y (.const (.bool false))) (hg:o.guard=none):T P ops o L Pd.bl:=
 T.pure hg fun M n s0 ac s hL=>by
  have h1:=zch.1 (hx M n s0 ac s hL);cases a
  ·refine ⟨.bool false, ?_,false,rfl⟩;unfold execOp;rw [ho];have hcn:ac.eval (.const (.bool false)) = .bool false:=rfl;simp [h1,asBool,hcn]
  ·obtain ⟨b,h2⟩:=hy rfl M n s0 ac s hL;refine ⟨.bool b, ?_,b,rfl⟩;unfold execOp;rw [ho];simp [h1,h2,asBool]
theorem o_fv0 {L:Lst} {f:FuncId}:Opn L (.func f) (Pd.fv f [] zf9):=fun _ _ _ _ _ _=>⟨[],rfl,trivial⟩
def bareB (x y:SVal):Bool:=(((x.1==y.1)&&(x.2.1==y.2.1))&&(x.2.2.1==y.2.2.1))&&(x.2.2.2.1==y.2.2.2.1)
theorem bare_ok {E E':En Unit} {x y:SVal}:Fn Tryz.prog 213 [Pd.rep (EnVt E) x,Pd.rep (EnVt E') y] (Rq (Pd.rep En.bool (bareB x y))):=by
 refine zbn Tryz.func213 rfl Tryz.ntmps213 (by rfl) (by simp) fun s0 a hL=>?_;refine wp_seq_k fun K1 hK1=>?_;refine rg ?_;refine st 2 (zgd (o_t 0 rfl) rfl rfl) rfl rfl hL fun a s e_ hL=>?_;refine st 3 (zgd (o_t 1 rfl) rfl rfl) rfl rfl hL fun a s e_ hL=>?_;refine st 4 (zp o_b rfl rfl) rfl rfl hL fun a s e_ hL=>?_;refine en' ?_;show K1 a s.w;refine hK1 _ _ ?_;refine wp_seq_k fun K2 hK2=>?_;refine rg ?_;refine st 5 (zdb (off:=0) (o_t 2 rfl) Tryz.underlying257 rfl (zx (zn _ _)) rfl ty3 rfl rfl) rfl rfl hL fun a s e_ hL=>?_;refine st 6 (zw ty3 (o_t 5 rfl) rfl rfl) rfl rfl hL fun a s e_ hL=>?_;refine st 7 (zdb (off:=0) (o_t 3 rfl) Tryz.underlying257 rfl (zx (zn _ _)) rfl ty3 rfl rfl) rfl rfl hL fun a s e_ hL=>?_;refine st 8 (zw ty3 (o_t 7 rfl) rfl rfl) rfl rfl hL fun a s e_ hL=>?_;refine st 9 (zgp (o_t 6 rfl) (o_t 8 rfl) rfl rfl) rfl rfl hL fun a s e_ hL=>?_;refine st 10 (zj (o_t 9 rfl) rfl rfl) rfl rfl hL fun a s e_ hL=>?_;refine st 11 (zfk rfl rfl rfl (fun hc_=>zdb (off:=1) (o_t 2 rfl) Tryz.underlying257 rfl (ze (zx (zn _ _)) rfl) rfl ty5 rfl rfl)) rfl rfl hL fun a s e_ hL=>?_;refine st 12 (zfk rfl rfl rfl (fun hc_=>zw ty5 (o_w hc_ 11 rfl) rfl rfl)) rfl rfl hL fun a s e_ hL=>?_;refine st 13 (zfk rfl rfl rfl (fun hc_=>zdb (off:=1) (o_t 3 rfl) Tryz.underlying257 rfl (ze (zx (zn _ _)) rfl) rfl ty5 rfl rfl)) rfl rfl hL fun a s e_ hL=>?_;refine st 14 (zfk rfl rfl rfl (fun hc_=>zw ty5 (o_w hc_ 13 rfl) rfl rfl)) rfl rfl hL fun a s e_ hL=>?_;refine st 15 (zfk rfl rfl rfl (fun hc_=>zgp (o_w hc_ 12 rfl) (o_w hc_ 14 rfl) rfl rfl)) rfl rfl hL fun a s e_ hL=>?_
 refine st 16 (zpm (o_t 10 rfl) (fun hc2_=>(o_w hc2_ 15 rfl)) rfl rfl) rfl rfl hL fun a s e_ hL=>?_;refine st 17 (zj (o_t 16 rfl) rfl rfl) rfl rfl hL fun a s e_ hL=>?_;refine st 18 (zfk rfl rfl rfl (fun hc_=>zdb (off:=2) (o_t 2 rfl) Tryz.underlying257 rfl (ze (ze (zx (zn _ _)) rfl) rfl) rfl ty9 rfl rfl)) rfl rfl hL fun a s e_ hL=>?_;refine st 19 (zfk rfl rfl rfl (fun hc_=>zw ty9 (o_w hc_ 18 rfl) rfl rfl)) rfl rfl hL fun a s e_ hL=>?_;refine st 20 (zfk rfl rfl rfl (fun hc_=>zdb (off:=2) (o_t 3 rfl) Tryz.underlying257 rfl (ze (ze (zx (zn _ _)) rfl) rfl) rfl ty9 rfl rfl)) rfl rfl hL fun a s e_ hL=>?_;refine st 21 (zfk rfl rfl rfl (fun hc_=>zw ty9 (o_w hc_ 20 rfl) rfl rfl)) rfl rfl hL fun a s e_ hL=>?_;refine st 22 (zfk rfl rfl rfl (fun hc_=>t_eqv eqv_str (o_w hc_ 19 rfl) (o_w hc_ 21 rfl) rfl rfl)) rfl rfl hL fun a s e_ hL=>?_;refine st 23 (zpm (o_t 17 rfl) (fun hc2_=>(o_w hc2_ 22 rfl)) rfl rfl) rfl rfl hL fun a s e_ hL=>?_;refine st 24 (zj (o_t 23 rfl) rfl rfl) rfl rfl hL fun a s e_ hL=>?_;refine st 25 (zfk rfl rfl rfl (fun hc_=>zdb (off:=3) (o_t 2 rfl) Tryz.underlying257 rfl (ze (ze (ze (zx (zn _ _)) rfl) rfl) rfl) rfl ty3 rfl rfl)) rfl rfl hL fun a s e_ hL=>?_;refine st 26 (zfk rfl rfl rfl (fun hc_=>zw ty3 (o_w hc_ 25 rfl) rfl rfl)) rfl rfl hL fun a s e_ hL=>?_;refine st 27 (zfk rfl rfl rfl (fun hc_=>zdb (off:=3) (o_t 3 rfl) Tryz.underlying257 rfl (ze (ze (ze (zx (zn _ _)) rfl) rfl) rfl) rfl ty3 rfl rfl)) rfl rfl hL fun a s e_ hL=>?_;refine st 28 (zfk rfl rfl rfl (fun hc_=>zw ty3 (o_w hc_ 27 rfl) rfl rfl)) rfl rfl hL fun a s e_ hL=>?_
 refine st 29 (zfk rfl rfl rfl (fun hc_=>zgp (o_w hc_ 26 rfl) (o_w hc_ 28 rfl) rfl rfl)) rfl rfl hL fun a s e_ hL=>?_;refine st 30 (zpm (o_t 24 rfl) (fun hc2_=>(o_w hc2_ 29 rfl)) rfl rfl) rfl rfl hL fun a s e_ hL=>?_;refine st 4 (zp (o_t 30 rfl) rfl rfl) rfl rfl hL fun a s e_ hL=>?_;refine en' ?_;show K2 a s.w;refine hK2 _ _ ?_;exact wp_ret (zdr rfl hL rfl)
abbrev SameFn (E:En Unit):Prop:=Fn Tryz.prog 201 [Pd.rep E (),Pd.rep En.vtw ()] (Rq Pd.bl)
theorem equal_ok {n:Nat} (hS:SameFn (En.vt n)) {xs ys:List Unit}:Fn Tryz.prog 214 [Pd.rep (En.slice (En.vt n)) xs,Pd.rep EnKs ys,Pd.fv 201 [] zf9] (Rq Pd.bl):=by
 refine zbn Tryz.func214 rfl Tryz.ntmps214 (by rfl) (by simp) fun s0 a hL=>?_;have hfin:∀(a:Act) (s:St) (b:Bool),Has N0 32 s0 a s [(6,Pd.rep En.bool b)]→bodyPost Tryz.prog Tryz.f214 (Pst N0 (Rq Pd.bl) s0) .ret a s.w:=fun a s b hL=>ret1 rfl hL ⟨b,zch.1 (hL.get 6 rfl)⟩;refine wp_seq_k fun K1 hK1=>?_;refine rg ?_;refine st 6 (zp o_b rfl rfl) rfl rfl hL fun a s e_ hL=>?_;refine en' ?_;show K1 a s.w;refine hK1 _ _ ?_;refine wp_seq_k fun K2 hK2=>?_;refine wp_seq_k fun K3 hK3=>?_;refine rg ?_;refine st 10 (zj (o_t 0 rfl) rfl rfl) rfl rfl hL fun a s e_ hL=>?_;refine st 11 (zi2 (o_t 10 rfl) Tryz.underlying143 rfl rfl) rfl rfl hL fun a s e_ hL=>?_;refine st 12 (zj (o_t 1 rfl) rfl rfl) rfl rfl hL fun a s e_ hL=>?_;refine st 13 (zi2 (o_t 12 rfl) Tryz.underlying143 rfl rfl) rfl rfl hL fun a s e_ hL=>?_;refine st 14 (t_nei (o_t 11 rfl) (o_t 13 rfl) rfl rfl) rfl rfl hL fun a s e_ hL=>?_;refine en' ?_;show K3 a s.w;refine hK3 _ _ ?_;refine cnd hL rfl (fun hb_=>?_) (fun hb_=>?_)
 ·refine wp_seq_k fun K4 hK4=>?_;refine rg ?_;refine st 6 (zp o_b rfl rfl) rfl rfl hL fun a s e_ hL=>?_;refine en' ?_;show K4 a s.w;refine hK4 _ _ ?_;exact wp_ret (hfin a s _ (hL.keep (.cons (t:=6) rfl nE .nil)))
 have hlen:xs.length=ys.length:=by
  have:((xs.length:Int) != (ys.length:Int))=false:=hb_;simp at this;omega
 have hxl:xs.length≤lim:=(zbx.1 (hL.get 0 rfl)).elim fun _ h=>h.elim fun _ h=>h.2.2.2.1;simp only [lim] at hxl;refine wp_skip ?_;show K2 a s.w;refine hK2 _ _ ?_;refine wp_seq_k fun K5 hK5=>?_;refine wp_seq_k fun K6 hK6=>?_;refine rg ?_;refine st 15 (zj (o_t 0 rfl) rfl rfl) rfl rfl hL fun a s e_ hL=>?_;refine st 16 (zi2 (o_t 15 rfl) Tryz.underlying143 rfl rfl) rfl rfl hL fun a s e_ hL=>?_;refine st 17 (zj (o_i (k:=.i64) (by decide)) rfl rfl) rfl rfl hL fun a s e_ hL=>?_;refine en' ?_;show K6 a s.w;refine hK6 _ _ ?_;refine wp_block ?_;refine lpg (fun k a s=>∃i:Nat,i+k=xs.length+1∧Has N0 32 s0 a s [(1,Pd.rep EnKs ys),(2,Pd.fv 201 [] zf9),(15,Pd.rep (En.slice (En.vt n)) xs),(16,Pd.rep (En.int .i64) (xs.length:Int)),(17,Pd.rep (En.int .i64) (i:Int))]) (xs.length+1)
  ⟨0,by omega,hL.keep (.cons (t:=1) rfl nE (.cons (t:=2) rfl nE (.cons (t:=15) rfl nE (.cons (t:=16) rfl nE (.cons (t:=17) rfl nE .nil)))))⟩ ?_
 rintro k a s ⟨i,hik,hL⟩ KL hKL;refine wp_seq_k fun K14 hK14=>?_;refine rg ?_;refine st 18 (zi1 (o_t 17 rfl) (o_t 16 rfl) rfl rfl) rfl rfl hL fun a s e_ hL=>?_;refine en' ?_;show K14 a s.w;refine hK14 _ _ ?_;refine wp_seq_k fun K15 hK15=>?_;refine cnd hL rfl (fun hb2_=>?_) (fun hb2_=>?_)
 case refine_2=>
  refine wp_exit ?_;show K5 a s.w;refine hK5 _ _ ?_;refine wp_seq_k fun K7 hK7=>?_;refine rg ?_;refine st 6 (zp o_b rfl rfl) rfl rfl hL fun a s e_ hL=>?_;refine en' ?_;show K7 a s.w;refine hK7 _ _ ?_;exact wp_ret (hfin a s _ (hL.keep (.cons (t:=6) rfl nE .nil)))
 have hi:i<xs.length:=by have:=dt hb2_;omega
 have htx:at? xs (i:Int)=some ():=by rw [zbm];simp [hi]
 have hty:at? ys (i:Int)=some ():=by rw [zbm,List.getElem?_eq_getElem (by omega)]
 refine wp_skip ?_;show K15 a s.w;refine hK15 _ _ ?_;refine wp_seq_k fun K17 hK17=>?_;refine wp_block ?_;cases n with
 | zero=>
  obtain ⟨ad,cap,_,_,_,_,h4⟩:=zbx.1 (hL.get 15 rfl);obtain ⟨b,off,css,_,_,hE,_⟩:=h4 (fun e=>by rw [e] at hi;simp at hi);exact (hE.2 i _ _ (List.getElem?_eq_getElem (by rw [hE.1];exact hi)) (List.getElem?_eq_getElem hi)).elim
 | succ n=>
 refine wp_seq_k fun K18 hK18=>?_;refine rg ?_;refine st 19 (zj (o_t 17 rfl) rfl rfl) rfl rfl hL fun a s e_ hL=>?_;refine st 20 (zkb (o_t 15 rfl) (o_t 17 rfl) htx Tryz.underlying143 (tyVn (n+1)) rfl rfl) rfl rfl hL fun a s e_ hL=>?_;refine st 21 (zw (tyVn (n+1)) (o_t 20 rfl) rfl rfl) rfl rfl hL fun a s e_ hL=>?_;refine zz (En.vt (n+1)) (z:=()) 8 hL (tyzVn n) rfl rfl rfl rfl fun a s g8 hg8 hL=>?_;refine st 7 (zp (o_t 19 rfl) rfl rfl) rfl rfl hL fun a s e_ hL=>?_;refine zgs (L':=[(1,Pd.rep EnKs ys),(2,Pd.fv 201 [] zf9),(7,Pd.rep (En.int .i64) (i:Int)),(15,Pd.rep (En.slice (En.vt (n+1))) xs),(16,Pd.rep (En.int .i64) (xs.length:Int)),(17,Pd.rep (En.int .i64) (i:Int))]) 8 hL rfl (o_t 21 rfl) (tyVn (n+1)) rfl rfl rfl
  (.cons (t:=1) rfl nE (.cons (t:=2) rfl nE (.cons (t:=7) rfl nE (.cons (t:=15) rfl nE (.cons (t:=16) rfl nE (.cons (t:=17) rfl nE .nil)))))) fun s hL=>?_
 refine en' ?_;show K18 a s.w;refine hK18 _ _ ?_;refine wp_seq_k fun K19 hK19=>?_;refine rg ?_;refine st 22 (zj (o_t 1 rfl) rfl rfl) rfl rfl hL fun a s e_ hL=>?_;refine st 23 (zj (o_t 7 rfl) rfl rfl) rfl rfl hL fun a s e_ hL=>?_;refine st 24 (zkb (o_t 22 rfl) (o_t 23 rfl) hty Tryz.underlying143 zhq rfl rfl) rfl rfl hL fun a s e_ hL=>?_;refine st 25 (zw zhq (o_t 24 rfl) rfl rfl) rfl rfl hL fun a s e_ hL=>?_;have lt8:=hL.blt 8 rfl;refine zz En.vtw (z:=()) 9 hL tyzVw rfl rfl rfl rfl fun a s g9 hg9 hL=>?_;have d98:Dis (some g9) (some g8):=Dis.newg hg9 lt8;refine zgs (L':=[(1,Pd.rep EnKs ys),(2,Pd.fv 201 [] zf9),(8,Pd.box (En.vt (n+1)) s0.w.heap.size g8 ()),(15,Pd.rep (En.slice (En.vt (n+1))) xs),(16,Pd.rep (En.int .i64) (xs.length:Int)),(17,Pd.rep (En.int .i64) (i:Int))]) 9 hL rfl (o_t 25 rfl) zhq rfl rfl rfl
  (.cons (t:=1) rfl nE (.cons (t:=2) rfl nE (.cons (t:=8) rfl (Dis.bx d98.symm) (.cons (t:=15) rfl nE (.cons (t:=16) rfl nE (.cons (t:=17) rfl nE .nil)))))) fun s hL=>?_
 refine en' ?_;show K19 a s.w;refine hK19 _ _ ?_;refine wp_seq_k fun K20 hK20=>?_;refine rg ?_;refine st 26 (zj (o_t 2 rfl) rfl rfl) rfl rfl hL fun a s e_ hL=>?_;refine st 27 (zgo (tyVn (n+1)) (o_t 8 rfl) rfl rfl) rfl rfl hL fun a s e_ hL=>?_;refine st 28 (zgo zhq (o_t 9 rfl) rfl rfl) rfl rfl hL fun a s e_ hL=>?_;refine st 29 (t_callv (qs:=[Pd.rep (En.vt (n+1)) (),Pd.rep En.vtw ()]) (o_t 26 rfl) hS (xs:=[.tmp 27,.tmp 28]) (.cons (o_t 27 rfl) (.cons (o_t 28 rfl) .nil)) rfl rfl) rfl rfl hL fun a s e_ hL=>?_;obtain ⟨b,hL⟩:=hL.blopen 29 rfl;refine st 30 (t_not (o_t 29 rfl) rfl rfl) rfl rfl hL fun a s e_ hL=>?_;refine en' ?_;show K20 a s.w;refine hK20 _ _ ?_;refine cnd hL rfl (fun hb3_=>?_) (fun hb3_=>?_)
 ·refine wp_seq_k fun K21 hK21=>?_;refine rg ?_;refine st 6 (zp o_b rfl rfl) rfl rfl hL fun a s e_ hL=>?_;refine en' ?_;show K21 a s.w;refine hK21 _ _ ?_;exact wp_ret (hfin a s _ (hL.keep (.cons (t:=6) rfl nE .nil)))
 refine wp_skip ?_;show K17 a s.w;refine hK17 _ _ ?_;refine rg ?_;refine st 31 (zi6 (o_t 17 rfl) (o_i (k:=.i64) (by decide)) (zi (by omega) (by omega)) rfl rfl) rfl rfl hL fun a s e_ hL=>?_;refine st 17 (zj (o_t 31 rfl) rfl rfl) rfl rfl hL fun a s e_ hL=>?_;refine en' ?_;exact hKL (k-1) a s (by omega) ⟨i+1,by omega,hL.keep (.cons (t:=1) rfl nE (.cons (t:=2) rfl nE (.cons (t:=15) rfl nE (.cons (t:=16) rfl nE (.cons (t:=17) rfl nE .nil)))))⟩
theorem same_step {n:Nat} (ih:SameFn (En.vt n)):SameFn (En.vt (n+1)):=by
 refine zbn Tryz.func201 rfl Tryz.ntmps201 (by rfl) (by simp) fun s0 a hL=>?_;obtain ⟨x,hL⟩:=hL.vopenn 0 rfl;obtain ⟨y,hL⟩:=hL.vopen 1 rfl;refine wp_seq_k fun K1 hK1=>?_;refine rg ?_;refine st 2 (zgd (o_t 0 rfl) rfl rfl) rfl rfl hL fun a s e_ hL=>?_;refine st 3 (zgd (o_t 1 rfl) rfl rfl) rfl rfl hL fun a s e_ hL=>?_;refine st 4 (zp o_b rfl rfl) rfl rfl hL fun a s e_ hL=>?_;refine en' ?_;show K1 a s.w;refine hK1 _ _ ?_;refine wp_seq_k fun K2 hK2=>?_;refine rg ?_;refine st 5 (zw tyVt (o_t 2 rfl) rfl rfl) rfl rfl hL fun a s e_ hL=>?_;refine st 6 (zw tyVt (o_t 3 rfl) rfl rfl) rfl rfl hL fun a s e_ hL=>?_;refine st 7 (zdl bare_ok (xs:=[.tmp 5,.tmp 6]) (.cons (o_t 5 rfl) (.cons (o_t 6 rfl) .nil)) rfl rfl) rfl rfl hL fun a s e_ hL=>?_;refine st 8 (zj (o_t 7 rfl) rfl rfl) rfl rfl hL fun a s e_ hL=>?_;refine st 9 (zfk rfl rfl rfl (fun hc_=>zdb (off:=4) (o_t 2 rfl) Tryz.underlying257 rfl (ze (ze (ze (ze (zn _ _) rfl) rfl) rfl) rfl) rfl tyKs rfl rfl)) rfl rfl hL fun a s e_ hL=>?_;refine st 10 (zfk rfl rfl rfl (fun hc_=>zw tyKs (o_w hc_ 9 rfl) rfl rfl)) rfl rfl hL fun a s e_ hL=>?_;refine st 11 (zfk rfl rfl rfl (fun hc_=>zdb (off:=4) (o_t 3 rfl) Tryz.underlying257 rfl (ze (ze (ze (ze (zn _ _) rfl) rfl) rfl) rfl) rfl tyKs rfl rfl)) rfl rfl hL fun a s e_ hL=>?_;refine st 12 (zfk rfl rfl rfl (fun hc_=>zw tyKs (o_w hc_ 11 rfl) rfl rfl)) rfl rfl hL fun a s e_ hL=>?_;refine st 13 (zfk rfl rfl rfl (fun hc_=>zdl (equal_ok ih) (xs:=[.tmp 10,.tmp 12,.func 201]) (.cons (o_w hc_ 10 rfl) (.cons (o_w hc_ 12 rfl) (.cons o_fv0 .nil))) rfl rfl)) rfl rfl hL fun a s e_ hL=>?_
 refine st 14 (t_andbl (o_t 8 rfl) (fun hc2_=>(o_w hc2_ 13 rfl)) rfl rfl) rfl rfl hL fun a s e_ hL=>?_;refine st 4 (zp (o_t 14 rfl) rfl rfl) rfl rfl hL fun a s e_ hL=>?_;refine en' ?_;show K2 a s.w;refine hK2 _ _ ?_;exact wp_ret (zdr rfl hL rfl)
theorem same_n:∀n,SameFn (En.vt n)
 | 0=>⟨ze1 Tryz.func201 rfl (by rfl),fun s vs hg hv=>match vs,hv with
  | _::_,⟨⟨_,_,h⟩,_⟩=>h.elim⟩
 | n+1=>same_step (same_n n)
theorem same_ok:SameFn En.vtw:=
 ⟨ze1 Tryz.func201 rfl (by rfl),fun s vs hg hv=>match vs,hv with
  | v::vs,⟨⟨cs,hv0,n,h⟩,hv⟩=>(same_n n).run s (v::vs) hg ⟨⟨cs,by rw [hv0];unfold En.val;rw [(vt_sz n).2];rfl,h⟩,hv⟩⟩
theorem units {l r:List Unit} (h:l.length=r.length):l=r:=by
 apply List.ext_getElem? ;intro i
 by_cases hi:i<l.length
 ·rw [List.getElem?_eq_getElem hi,List.getElem?_eq_getElem (by omega)]
 ·rw [List.getElem?_eq_none (by omega),List.getElem?_eq_none (by omega)]
theorem wrap_ok {k p:Int} {l:List Unit} (hl:l.length≤2):Fn Tryz.prog 167 [Pd.rep (En.int .i64) k,Pd.rep (En.int .i64) p,Pd.rep EnKs l] (Ro En.vtw 257 l):=by
 refine zbn Tryz.func167 rfl Tryz.ntmps167 (by rfl) (by simp) fun s0 a hL=>?_;refine wp_seq_k fun K1 hK1=>?_;refine rg ?_;refine st 6 (zp (o_nil (E:=En.vtw) (N:=s0.w.heap.size) (te:=257)) rfl rfl) rfl rfl hL fun a s e_ hL=>?_;refine en' ?_;show K1 a s.w;refine hK1 _ _ ?_;refine wp_seq_k fun K2 hK2=>?_;refine rg ?_;refine st 7 (zp (o_nil (E:=En.vtw) (N:=s0.w.heap.size) (te:=257)) rfl rfl) rfl rfl hL fun a s e_ hL=>?_;refine en' ?_;show K2 a s.w;refine hK2 _ _ ?_;refine wp_seq_k fun K3 hK3=>?_;refine wp_seq_k fun K4 hK4=>?_;refine rg ?_;refine st 10 (zj (o_t 2 rfl) rfl rfl) rfl rfl hL fun a s e_ hL=>?_;refine st 11 (zi2 (o_t 10 rfl) Tryz.underlying143 rfl rfl) rfl rfl hL fun a s e_ hL=>?_;refine st 12 (zj (o_i (k:=.i64) (by decide)) rfl rfl) rfl rfl hL fun a s e_ hL=>?_;refine en' ?_;show K4 a s.w;refine hK4 _ _ ?_;refine wp_block ?_;refine lpg (fun k' a s=>∃(i:Nat) (og:Option Nat),i+k'=l.length+1∧Has N0 26 s0 a s [(0,Pd.rep (En.int .i64) k),(1,Pd.rep (En.int .i64) p),(7,Pd.row En.vtw s0.w.heap.size 257 og (l.take i)),(10,Pd.rep EnKs l),(11,Pd.rep (En.int .i64) (l.length:Int)),(12,Pd.rep (En.int .i64) (i:Int))]) (l.length+1)
  ⟨0,none,by omega,hL.keep (.cons (t:=0) rfl nE (.cons (t:=1) rfl nE (.cons (t:=7) rfl (fun _ _ h_=>h_) (.cons (t:=10) rfl nE (.cons (t:=11) rfl nE (.cons (t:=12) rfl nE .nil))))))⟩ ?_
 rintro k' a s ⟨i,og,hik,hL⟩ KL hKL;refine wp_seq_k fun K14 hK14=>?_;refine rg ?_;refine st 13 (zi1 (o_t 12 rfl) (o_t 11 rfl) rfl rfl) rfl rfl hL fun a s e_ hL=>?_;refine en' ?_;show K14 a s.w;refine hK14 _ _ ?_;refine wp_seq_k fun K15 hK15=>?_;refine cnd hL rfl (fun hb2_=>?_) (fun hb2_=>?_)
 case refine_2=>
  refine wp_exit ?_;show K3 a s.w;refine hK3 _ _ ?_;have hi:l.length≤i:=by have:=df hb2_;omega
  rw [List.take_of_length_le hi] at hL;refine wp_seq_k fun K7 hK7=>?_;refine rg ?_;refine st 25 (zj (o_t 7 rfl) rfl rfl) rfl rfl hL fun a s e_ hL=>?_;refine st 6 (zp (o_t 25 rfl) rfl rfl) rfl rfl hL fun a s e_ hL=>?_;refine en' ?_;show K7 a s.w;refine hK7 _ _ ?_;exact wp_ret (zf3 rfl hL rfl)
 have hi:i<l.length:=by have:=dt hb2_;omega
 have hti:at? l (i:Int)=some ():=by rw [zbm];simp [hi]
 refine wp_skip ?_;show K15 a s.w;refine hK15 _ _ ?_;refine wp_seq_k fun K17 hK17=>?_;refine wp_block ?_;refine wp_seq_k fun K18 hK18=>?_;refine rg ?_;refine st 14 (zkb (o_t 10 rfl) (o_t 12 rfl) hti Tryz.underlying143 zhq rfl rfl) rfl rfl hL fun a s e_ hL=>?_;refine st 15 (zw zhq (o_t 14 rfl) rfl rfl) rfl rfl hL fun a s e_ hL=>?_;have lt7:=hL.rlt 7 rfl;refine zz En.vtw (z:=()) 9 hL tyzVw rfl rfl rfl rfl fun a s g9 hg9 hL=>?_;have d97:Dis (some g9) og:=Dis.newg hg9 lt7;refine zgs (L':=[(0,Pd.rep (En.int .i64) k),(1,Pd.rep (En.int .i64) p),(7,Pd.row En.vtw s0.w.heap.size 257 og (l.take i)),(10,Pd.rep EnKs l),(11,Pd.rep (En.int .i64) (l.length:Int)),(12,Pd.rep (En.int .i64) (i:Int))]) 9 hL rfl (o_t 15 rfl) zhq rfl rfl rfl
  (.cons (t:=0) rfl nE (.cons (t:=1) rfl nE (.cons (t:=7) rfl d97.symm.ow (.cons (t:=10) rfl nE (.cons (t:=11) rfl nE (.cons (t:=12) rfl nE .nil)))))) fun s hL=>?_
 refine en' ?_;show K18 a s.w;refine hK18 _ _ ?_;refine rg ?_;refine st 16 (zj (o_t 7 rfl) rfl rfl) rfl rfl hL fun a s e_ hL=>?_;refine st 17 (zj (o_t 0 rfl) rfl rfl) rfl rfl hL fun a s e_ hL=>?_;refine st 18 (zj (o_t 1 rfl) rfl rfl) rfl rfl hL fun a s e_ hL=>?_;refine st 19 (zgo zhq (o_t 9 rfl) rfl rfl) rfl rfl hL fun a s e_ hL=>?_;refine st 20 (zn1 (E:=En.vtw) (xs:=[.tmp 19]) (.cons (o_t 19 rfl) .nil) Tryz.underlying143 zhq rfl rfl (by decide) rfl rfl) rfl rfl hL fun a s e_ hL=>?_;refine st 21 (zbj (x:=((k,0,[],p,[()]):SVal)) (ps:=[(0,.tmp 17),(3,.tmp 18),(4,.tmp 20)]) (tyzVt (E:=En.vtw)) rfl sttVt (.cons (i:=0) (o_t 17 rfl) rfl (z7 (zo _ _ _)) (.cons (i:=3) (o_t 18 rfl) rfl (zk (zk (zk (z7 (zo _ _ _)) rfl) rfl) rfl) (.cons (i:=4) (o_t 20 rfl) rfl (zk (zk (zk (zk (zo _ _ _) rfl) rfl) rfl) rfl) .nil))) rfl rfl) rfl rfl hL fun a s e_ hL=>?_;refine st 22 (zn1 (E:=En.vtw) (es:=[()]) (xs:=[.tmp 21]) (.cons (o_vt (o_t 21 rfl)) .nil) Tryz.underlying143 zhq rfl rfl (by decide) rfl rfl) rfl rfl hL fun a s e_ hL=>?_;refine zdx (L':=[(0,Pd.rep (En.int .i64) k),(1,Pd.rep (En.int .i64) p),(10,Pd.rep EnKs l),(11,Pd.rep (En.int .i64) (l.length:Int)),(12,Pd.rep (En.int .i64) (i:Int))]) 23 hL (o_t 16 rfl) (o_t 22 rfl) Tryz.underlying143 zhq (by simp;omega) rfl rfl rfl rfl
  (.cons (t:=0) rfl nE (.cons (t:=1) rfl nE (.cons (t:=10) rfl nE (.cons (t:=11) rfl nE (.cons (t:=12) rfl nE .nil))))) fun a s og' hg' hL=>?_
 refine st 7 (zp (o_t 23 rfl) rfl rfl) rfl rfl hL fun a s e_ hL=>?_;refine en' ?_;show K17 a s.w;refine hK17 _ _ ?_;refine rg ?_;refine st 24 (zi6 (o_t 12 rfl) (o_i (k:=.i64) (by decide)) (zi (by omega) (by omega)) rfl rfl) rfl rfl hL fun a s e_ hL=>?_;refine st 12 (zj (o_t 24 rfl) rfl rfl) rfl rfl hL fun a s e_ hL=>?_;refine en' ?_;refine hKL (k' - 1) a s (by omega) ⟨i+1,og',by omega, ?_⟩;have e:l.take i++[()]=l.take (i+1):=units (by simp;omega);rw [← e];exact hL.keep (.cons (t:=0) rfl nE (.cons (t:=1) rfl nE (.cons (t:=7) rfl (fun _ _ h_=>h_) (.cons (t:=10) rfl nE (.cons (t:=11) rfl nE (.cons (t:=12) rfl nE .nil))))))
set_option maxRecDepth 100000
theorem Ef.cmp {T T':Nat→Prop} {a b c:St} (h:Ef T a b) (k:Ef T' b c) (hT':∀x,T' x→T x∨a.w.heap.size≤x):Ef T a c:=
 ⟨⟨h.mv.dr.trans k.mv.dr,k.mv.os.trans h.mv.os,k.mv.tape.trans h.mv.tape,k.mv.output.trans h.mv.output,Nat.le_trans h.mv.size k.mv.size,
  fun x hx hn=>(k.mv.blk x (Nat.lt_of_lt_of_le hx h.mv.size) (fun ht=>(hT' x ht).elim hn (fun hs=>by omega))).trans (h.mv.blk x hx hn),h.mv.tx,
  fun x hx=>(k.mv.xx x hx).elim (fun j=>h.mv.xx x j) (fun j=>.inr (Nat.le_trans h.mv.size j))⟩,
  fun x hx hn=>k.keep x (h.keep x hx hn) (fun ht=>(hT' x ht).elim hn (fun hs=>by have:=a.lt x hx;omega))⟩
theorem mput_or {κ ν:Type} [DecidableEq κ] {xs:List (κ × ν)} {k:κ} {v:ν} {p:κ × ν} (h:p∈zf4 xs k v):p=(k,v)∨p∈xs:=by
 unfold zf4 at h;cases hh:zha xs k
 ·rw [hh,cond_false,List.mem_append,List.mem_singleton] at h;exact h.symm
 ·rw [hh,cond_true,List.mem_map] at h;obtain ⟨q,hq,e⟩:=h;cases hqk:(q.1==k)
  ·rw [hqk,cond_false] at e;subst e;exact .inr hq
  ·rw [hqk,cond_true] at e;exact .inl e.symm
theorem mget_at {κ ν:Type} [DecidableEq κ] {xs:List (κ × ν)} {k:κ} (h:zha xs k=true) (z:ν):(k,zd4 xs k z)∈xs:=by
 unfold zd4;cases hf:xs.find? (fun p=>p.1==k) with
 | none=>
  obtain ⟨p,hp,e⟩:=zew.1 h;have:=List.find?_eq_none.1 hf p hp;simp [e] at this
 | some q=>
  have h1:=List.find?_some hf;have h2:=List.mem_of_find?_eq_some hf;have e:q.1=k:=by simpa using h1
  rw [← e];exact h2
abbrev AddR (N:Nat) (s:St) (og:Option Nat):Ending→World→Prop:=fun e w'=>∃(v':Value) (s':St) (og':Option Nat) (r:List Unit),e = .returned v'∧s'.w=w'∧Ef (fun b=>og=some b) s s'∧(∀b,og'=some b→og=some b∨s.w.heap.size≤b)∧(Pd.row En.vtw N 257 og' r).p s' v'∧r≠[]∧r.length≤2
theorem add_run {l:List Unit} (hl:l.length≤2) {N:Nat} {og:Option Nat} {s:St} {v u:Value} (hg:Gl s) (hN:N≤s.w.heap.size) (hv:(Pd.row En.vtw N 257 og l).p s v) (hu:(Pd.rep En.vtw ()).p s u):Calls Tryz.prog 168 #[v,u] s.w (AddR N s og):=by
 refine calls_of_wp Tryz.func168 rfl ?_;have hact:({ tmps:=#[v,u]++Array.replicate (Tryz.f168.ntmps - #[v,u].size) undef,defers:=[] }:Act) = { tmps:=#[v,u]++Array.replicate 24 undef,defers:=[] }:=by rw [Tryz.ntmps168];rfl
 rw [hact];have hL:Has N0 26 s { tmps:=#[v,u]++Array.replicate 24 undef,defers:=[] } s [(0,Pd.row En.vtw N 257 og l),(1,Pd.rep En.vtw ())]:=
  (((⟨by simp,rfl,Fr.refl (fun _ h=>h.elim),hg,fun t q e=>by cases e⟩:Has N0 26 s _ s []).cons 1 (by simpa [Act.eval] using hu)).cons 0 (by simpa [Act.eval] using hv))
 have fin:∀(a:Act) (s1:St),Has N0 26 s a s1 [(4,Pd.row En.vtw N 257 og l)]→l≠[]→bodyPost Tryz.prog Tryz.f168 (AddR N s og) .ret a s1.w:=fun a s1 hL hne=>
  ⟨hL.defers,a.eval (.tmp 4),results_tmp rfl a.tmps _ s1.w,a.eval (.tmp 4),s1,og,l,rfl,rfl,hL.ent.ex.ef _ (fun b hb=>hv.2.1 b hb),fun b hb=>.inl hb,hL.get 4 rfl,hne,hl⟩
 revert hL
 generalize hS:s=S;intro hL;refine wp_seq_k fun K1 hK1=>?_;refine rg ?_;refine st 3 (zgd (o_t 1 rfl) rfl rfl) rfl rfl hL fun a s e_ hL=>?_;refine st 4 (zp (q:=Pd.any) (fun _ _ _ _ _ _=>trivial) rfl rfl) rfl rfl hL fun a s e_ hL=>?_;refine en' ?_;show K1 a s.w;refine hK1 _ _ ?_;refine wp_seq_k fun K2 hK2=>?_;refine wp_seq_k fun K3 hK3=>?_;refine rg ?_;refine st 7 (zj (o_t 0 rfl) rfl rfl) rfl rfl hL fun a s e_ hL=>?_;refine st 8 (t_leno (o_t 7 rfl) Tryz.underlying143 rfl rfl) rfl rfl hL fun a s e_ hL=>?_;refine st 9 (t_geq (o_t 8 rfl) (o_i (k:=.i64) (by decide)) rfl rfl) rfl rfl hL fun a s e_ hL=>?_;refine en' ?_;show K3 a s.w;refine hK3 _ _ ?_;refine cnd hL rfl (fun hb_=>?_) (fun hb_=>?_)
 ·have h2:2≤l.length:=by have:=dt hb_;omega
  refine wp_seq_k fun K4 hK4=>?_;refine rg ?_;refine st 10 (zj (o_t 0 rfl) rfl rfl) rfl rfl hL fun a s e_ hL=>?_;refine st 4 (zp (o_t 10 rfl) rfl rfl) rfl rfl hL fun a s e_ hL=>?_;refine en' ?_;show K4 a s.w;refine hK4 _ _ ?_;subst hS;exact wp_ret (fin a s (hL.keep (.cons (t:=4) rfl (fun _ _ h_=>h_) .nil)) fun e=>by rw [e] at h2;simp at h2)
 have hl2:l.length<2:=by have:=df hb_;omega
 refine wp_skip ?_;show K2 a s.w;refine hK2 _ _ ?_;refine wp_seq_k fun K5 hK5=>?_;refine wp_seq_k fun K6 hK6=>?_;refine rg ?_;refine st 11 (zj (o_t 0 rfl) rfl rfl) rfl rfl hL fun a s e_ hL=>?_;refine st 12 (t_leno (o_t 11 rfl) Tryz.underlying143 rfl rfl) rfl rfl hL fun a s e_ hL=>?_;refine st 13 (zj (o_i (k:=.i64) (by decide)) rfl rfl) rfl rfl hL fun a s e_ hL=>?_;refine en' ?_;show K6 a s.w;refine hK6 _ _ ?_;refine wp_block ?_;refine lpg (fun k a s=>∃i:Nat,i+k=l.length+1∧Has N0 26 S a s [(0,Pd.row En.vtw N 257 og l),(3,Pd.ptr En.vtw ()),(11,Pd.row En.vtw N 257 og l),(12,Pd.rep (En.int .i64) (l.length:Int)),(13,Pd.rep (En.int .i64) (i:Int))]) (l.length+1)
  ⟨0,by omega,hL.keep (.cons (t:=0) rfl (fun _ _ h_=>h_) (.cons (t:=3) rfl nE (.cons (t:=11) rfl (fun _ _ h_=>h_) (.cons (t:=12) rfl nE (.cons (t:=13) rfl nE .nil)))))⟩ ?_
 rintro k a s ⟨i,hik,hL⟩ KL hKL;refine wp_seq_k fun K14 hK14=>?_;refine rg ?_;refine st 14 (zi1 (o_t 13 rfl) (o_t 12 rfl) rfl rfl) rfl rfl hL fun a s e_ hL=>?_;refine en' ?_;show K14 a s.w;refine hK14 _ _ ?_;refine wp_seq_k fun K15 hK15=>?_;refine cnd hL rfl (fun hb2_=>?_) (fun hb2_=>?_)
 case refine_2=>
  refine wp_exit ?_;show K5 a s.w;refine hK5 _ _ ?_;refine wp_seq_k fun K7 hK7=>?_;refine rg ?_;refine st 22 (zj (o_t 0 rfl) rfl rfl) rfl rfl hL fun a s e_ hL=>?_;refine st 23 (zw zhq (o_t 3 rfl) rfl rfl) rfl rfl hL fun a s e_ hL=>?_;refine st 24 (zn1 (E:=En.vtw) (es:=[()]) (xs:=[.tmp 23]) (.cons (o_t 23 rfl) .nil) Tryz.underlying143 zhq rfl rfl (by decide) rfl rfl) rfl rfl hL fun a s e_ hL=>?_;have hrow:=hL.get 22 rfl;have hy:=zbx.1 (hL.get 24 rfl);have e04:Ex S s:=hL.ent.ex;subst hS;obtain ⟨v',s5,og',hr,eA,hq,hf⟩:=run_app Tryz.underlying143 zhq hrow hy (Nat.le_trans hN e04.mv.size) (by simp;omega) 143;refine wpList_plain rfl fun K hK=>?_;unfold Oper.wp execOp;simp only [resolve,invoke,builtin,Sem.run_bind,Sem.run_pure,Result.andThen_ok,List.map_toArray,List.map_cons,List.map_nil,hr];refine hK _ _ ?_;have h6:Has N0 26 s5 (a.put (some 25) v') s5 [(25,Pd.row En.vtw N 257 og' (l++[()]))]:=
   (⟨by simp [Act.put,hL.size],hL.defers,Fr.refl (fun _ h=>h.elim),(hg.mv e04.mv).mv eA.mv,fun t q e=>by cases e⟩:Has N0 26 s5 (a.put (some 25) v') s5 []).cons 25 (by rw [zd7 hL.size (by rfl)];exact hq)
  refine st 4 (zp (o_t 25 rfl) rfl rfl) rfl rfl h6 fun a s7 e7 hL7=>?_;refine en' ?_;show K7 a s7.w;refine hK7 _ _ ?_;refine wp_ret ⟨hL7.defers,_,results_tmp rfl a.tmps _ s7.w,_,s7,og',l++[()],rfl,rfl,((e04.ef _ (fun b hb=>hv.2.1 b hb)).cmp eA (fun b hb=>.inl hb)).cmp (e7.ef (fun _=>False) (fun _ h=>h.elim)) (fun _ h=>h.elim),fun b hb=>(hf b hb).imp id (fun h=>Nat.le_trans e04.mv.size h),hL7.get 4 rfl,by simp,by simp;omega⟩
 have hi:i<l.length:=by have:=dt hb2_;omega
 have hti:at? l (i:Int)=some ():=by rw [zbm];simp [hi]
 refine wp_skip ?_;show K15 a s.w;refine hK15 _ _ ?_;refine wp_seq_k fun K17 hK17=>?_;refine wp_block ?_;refine wp_seq_k fun K18 hK18=>?_;refine rg ?_;refine st 15 (zea (o_t 11 rfl) (o_t 13 rfl) hti Tryz.underlying143 zhq rfl rfl) rfl rfl hL fun a s e_ hL=>?_;refine st 16 (zcr zhq (o_t 15 rfl) rfl rfl) rfl rfl hL fun a s e_ hL=>?_;have lt0:=hL.rlt 0 rfl;refine zz En.vtw (z:=()) 6 hL tyzVw rfl rfl rfl rfl fun a s g6 hg6 hL=>?_;have d60:Dis (some g6) og:=Dis.newg hg6 lt0;refine zgs (L':=[(0,Pd.row En.vtw N 257 og l),(3,Pd.ptr En.vtw ()),(11,Pd.row En.vtw N 257 og l),(12,Pd.rep (En.int .i64) (l.length:Int)),(13,Pd.rep (En.int .i64) (i:Int))]) 6 hL rfl (o_t 16 rfl) zhq rfl rfl rfl
  (.cons (t:=0) rfl d60.symm.ow (.cons (t:=3) rfl nE (.cons (t:=11) rfl d60.symm.ow (.cons (t:=12) rfl nE (.cons (t:=13) rfl nE .nil))))) fun s hL=>?_
 refine en' ?_;show K18 a s.w;refine hK18 _ _ ?_;refine wp_seq_k fun K20 hK20=>?_;refine rg ?_;refine st 17 (zgo zhq (o_t 6 rfl) rfl rfl) rfl rfl hL fun a s e_ hL=>?_;refine st 18 (zw zhq (o_t 3 rfl) rfl rfl) rfl rfl hL fun a s e_ hL=>?_;refine st 19 (zdl same_ok (xs:=[.tmp 17,.tmp 18]) (.cons (o_t 17 rfl) (.cons (o_t 18 rfl) .nil)) rfl rfl) rfl rfl hL fun a s e_ hL=>?_;obtain ⟨b,hL⟩:=hL.blopen 19 rfl;refine en' ?_;show K20 a s.w;refine hK20 _ _ ?_;refine cnd hL rfl (fun hb3_=>?_) (fun hb3_=>?_)
 ·refine wp_seq_k fun K21 hK21=>?_;refine rg ?_;refine st 20 (zj (o_t 0 rfl) rfl rfl) rfl rfl hL fun a s e_ hL=>?_;refine st 4 (zp (o_t 20 rfl) rfl rfl) rfl rfl hL fun a s e_ hL=>?_;refine en' ?_;show K21 a s.w;refine hK21 _ _ ?_;subst hS;exact wp_ret (fin a s (hL.keep (.cons (t:=4) rfl (fun _ _ h_=>h_) .nil)) fun e=>by rw [e] at hi;simp at hi)
 refine wp_skip ?_;show K17 a s.w;refine hK17 _ _ ?_;refine rg ?_;refine st 21 (zi6 (o_t 13 rfl) (o_i (k:=.i64) (by decide)) (zi (by omega) (by omega)) rfl rfl) rfl rfl hL fun a s e_ hL=>?_;refine st 13 (zj (o_t 21 rfl) rfl rfl) rfl rfl hL fun a s e_ hL=>?_;refine en' ?_;exact hKL (k-1) a s (by omega) ⟨i+1,by omega,hL.keep (.cons (t:=0) rfl (fun _ _ h_=>h_) (.cons (t:=3) rfl nE (.cons (t:=11) rfl (fun _ _ h_=>h_) (.cons (t:=12) rfl nE (.cons (t:=13) rfl nE .nil)))))⟩
theorem zqh {ops:Array Oper} {o:Oper} {L L':Lst} {Q:Exit→Act→World→Prop} {rest:List Oper} {M:Nat→Prop} {n:Nat} {s0:St} {a:Act} {s:St} {l:List Unit} {og:Option Nat} {x y:Operand} {ats:Array TypeId} (d:Nat) (hL:Has M n s0 a s L) (hl:l.length≤2) (hx:Opn L x (Pd.row En.vtw s0.w.heap.size 257 og l)) (hy:Opn L y (Pd.rep En.vtw ()))
  (ho:o.op = .call { callee:=.value (.func 168),args:=#[x,y],argTypes:=ats }) (hg:o.guard=none) (hd:o.dst=some d) (hn:Nat.blt d n=true) (hk:Kp (fun b=>og=some b) L L')
  (k:∀a' s' og' r,(∀b,og'=some b→og=some b∨s.w.heap.size≤b)→r≠[]→r.length≤2→Has M n s0 a' s' ((d,Pd.row En.vtw s0.w.heap.size 257 og' r)::L')→wpList Tryz.prog ops Q rest a' s'.w):wpList Tryz.prog ops Q (o::rest) a s.w:=by
 have h1:=hx M n s0 a s hL;have hc:=ze1 (f:=168) Tryz.func168 rfl (by rfl) #[a.eval x,a.eval y] s.w;have e:(execOp a.eval o).run Tryz.prog s.w = .ok (.enter 168 #[a.eval x,a.eval y]) s.w:=by
  have e:execOp a.eval o=callFunc 168 (#[]++(#[x,y]:Array Operand).map a.eval ++ #[]):=by unfold execOp;rw [ho];rfl
  rw [e];simp [hc]
 refine wpList_plain hg fun K hK=>?_;unfold Oper.wp;rw [e,Oper.upon_enter];refine (add_run hl hL.gls hL.ent.mv.size h1 (hy M n s0 a s hL)).mono fun en w' ⟨v',s',og',r,he,hw,hE,hf,hr,hne,hl2⟩=>?_;subst he;subst hw;refine hK _ _ ?_;rw [hd];exact k _ s' og' r hf hne hl2 ((hL.ef hE (fun b hb=>(ziw h1 b hb).1) hk).put' hn hr)
abbrev tkN (i:Int) (n:SNode) (f t:Int):Int × Int × Int × Int × Int:=(i,n.2.2.2.1,n.2.2.2.2.1,f,t)
theorem zh7 {d:List SNode} {w:List Int} {og:Option Nat} {i f t:Int} {n:SNode} (hn:at? d i=some n):Fn Tryz.prog 103 [Pd.ptr EnRd (d,w,og),Pd.rep (En.int .i64) i,Pd.rep (En.int .i64) f,Pd.rep (En.int .i64) t] (Rq (Pd.rep EnTk (tkN i n f t))):=by
 refine zbn Tryz.func103 rfl Tryz.ntmps103 (by rfl) (by simp) fun s0 a hL=>?_;refine wp_seq_k fun K1 hK1=>?_;refine rg ?_;refine zz EnTk (z:=(0,0,0,0,0)) 8 hL tyzTk rfl rfl rfl rfl fun a s g8 hg8 hL=>?_;refine en' ?_;show K1 a s.w;refine hK1 _ _ ?_;refine wp_seq_k fun K2 hK2=>?_;refine rda zck 22 [Pd.rep (En.int .i64) i,Pd.ptr EnRd (d,w,og),Pd.ptr EnRd (d,w,og),Pd.ptr En.SDesc d,Pd.ptr (En.slice En.SNode) d,Pd.rep (En.slice En.SNode) d,Pd.rep (En.int .i64) i,Pd.ptr En.SNode n,Pd.ptr (En.int .i64) n.2.2.2.1,Pd.rep (En.int .i64) n.2.2.2.1,Pd.ptr EnRd (d,w,og),Pd.ptr EnRd (d,w,og),Pd.ptr En.SDesc d,Pd.ptr (En.slice En.SNode) d,Pd.rep (En.slice En.SNode) d,Pd.rep (En.int .i64) i,Pd.ptr En.SNode n,Pd.ptr (En.int .i64) n.2.2.2.2.1,Pd.rep (En.int .i64) n.2.2.2.2.1,Pd.rep (En.int .i64) f,Pd.rep (En.int .i64) t,Pd.rep EnTk (tkN i n f t)] hL (by kernel_rfl) rfl rfl ?_ ?_
 ·refine zbe.cons (zj (o_t 1 rfl) rfl rfl) ?_;refine zbe.cons (zj (o_t 0 rfl) rfl rfl) ?_;refine zbe.cons (t_nc (o_t 10 rfl) zff rfl rfl) ?_;refine zbe.cons (zdb (off:=0) (o_t 11 rfl) Tryz.underlying181 rfl (zx (zn _ _)) rfl ty24 rfl rfl) ?_;refine zbe.cons (zdb (off:=0) (o_t 12 rfl) Tryz.underlying24 rfl (zfv (zn _ _)) rfl ty22 rfl rfl) ?_;refine zbe.cons (zw ty22 (o_t 13 rfl) rfl rfl) ?_;refine zbe.cons (zj (o_t 1 rfl) rfl rfl) ?_;refine zbe.cons (zkb (o_t 14 rfl) (o_t 15 rfl) hn Tryz.underlying22 ty42 rfl rfl) ?_;refine zbe.cons (zdb (off:=3) (o_t 16 rfl) Tryz.underlying42 rfl (ze (ze (ze (zx (zn _ _)) rfl) rfl) rfl) rfl ty3 rfl rfl) ?_;refine zbe.cons (zw ty3 (o_t 17 rfl) rfl rfl) ?_;refine zbe.cons (zj (o_t 0 rfl) rfl rfl) ?_;refine zbe.cons (t_nc (o_t 19 rfl) zff rfl rfl) ?_;refine zbe.cons (zdb (off:=0) (o_t 20 rfl) Tryz.underlying181 rfl (zx (zn _ _)) rfl ty24 rfl rfl) ?_;refine zbe.cons (zdb (off:=0) (o_t 21 rfl) Tryz.underlying24 rfl (zfv (zn _ _)) rfl ty22 rfl rfl) ?_;refine zbe.cons (zw ty22 (o_t 22 rfl) rfl rfl) ?_;refine zbe.cons (zj (o_t 1 rfl) rfl rfl) ?_;refine zbe.cons (zkb (o_t 23 rfl) (o_t 24 rfl) hn Tryz.underlying22 ty42 rfl rfl) ?_;refine zbe.cons (zdb (off:=4) (o_t 25 rfl) Tryz.underlying42 rfl (ze (ze (ze (ze (zx (zn _ _)) rfl) rfl) rfl) rfl) rfl ty3 rfl rfl) ?_;refine zbe.cons (zw ty3 (o_t 26 rfl) rfl rfl) ?_;refine zbe.cons (zj (o_t 2 rfl) rfl rfl) ?_;refine zbe.cons (zj (o_t 3 rfl) rfl rfl) ?_;refine zbe.cons (zbj (x:=(tkN i n f t)) (ps:=[(0,.tmp 9),(1,.tmp 18),(2,.tmp 27),(3,.tmp 28),(4,.tmp 29)]) tyzTk rfl sttTk (.cons (i:=0) (o_t 9 rfl) rfl (z7 (zo _ _ _)) (.cons (i:=1) (o_t 18 rfl) rfl (zk (z7 (zo _ _ _)) rfl) (.cons (i:=2) (o_t 27 rfl) rfl (zk (zk (z7 (zo _ _ _)) rfl) rfl) (.cons (i:=3) (o_t 28 rfl) rfl (zk (zk (zk (z7 (zo _ _ _)) rfl) rfl) rfl) (.cons (i:=4) (o_t 29 rfl) rfl (zk (zk (zk (zk (zo _ _ _) rfl) rfl) rfl) rfl) .nil))))) rfl rfl) ?_
  exact zbe.nil
 intro a s e_ hL;refine zgs (L':=[]) 8 hL rfl (o_t 30 rfl) tyTk rfl rfl rfl .nil fun s hL=>?_;refine en' ?_;show K2 a s.w;refine hK2 _ _ ?_;exact wp_ret (retb rfl tyTk hL rfl)
theorem tk_in5 {x:Int × Int × Int × Int × Int} {s:St} {v:Value} (h:(Pd.rep EnTk x).p s v):In5 x:=by
 obtain ⟨cs,_,a,b,_,⟨_,h0⟩,c,d,_,⟨_,h1⟩,e,f,_,⟨_,h2⟩,i,j,_,⟨_,h3⟩,⟨_,h4⟩⟩:=h;exact ⟨h0,h1,h2,h3,h4⟩
def zke (d:List SNode) (i:Int) (l:List Unit):Prop:=l.length≤2∧(l≠[]↔zjh d d.length i=true)
def zk0 (d:List SNode) (xs:List (Tsk × List Unit)):Prop:=∀(k:Tsk) l,(k,l)∈xs→∃i n,at? d i=some n∧k.1=tkN i n 0 0∧zke d i l
theorem zk0.nil (d:List SNode):zk0 d []:=fun k l h=>by cases h
theorem zk0.get {d:List SNode} {xs:List (Tsk × List Unit)} (h:zk0 d xs) {k:Tsk} {i:Int} {n:SNode} (hk:k.1=tkN i n 0 0) (hm:zha xs k=true):zke d i (zd4 xs k []):=by
 obtain ⟨i',n',_,e,hg⟩:=h _ _ (mget_at hm []);have:i'=i:=by have:=e.symm.trans hk;simp only [tkN,Prod.mk.injEq] at this;exact this.1
 subst this;exact hg
theorem zk0.put {d:List SNode} {xs:List (Tsk × List Unit)} (h:zk0 d xs) {k:Tsk} {i:Int} {n:SNode} {l:List Unit} (hn:at? d i=some n) (hk:k.1=tkN i n 0 0) (hg:zke d i l):zk0 d (zf4 xs k l):=by
 intro k' l' hm;rcases mput_or hm with e | hm
 ·cases e;exact ⟨i,n,hn,hk,hg⟩
 ·exact h k' l' hm
abbrev CntFc (f:FuncId) (d:List SNode) (g:Nat) (i:Int) (xs:List (Tsk × List Unit)) (qs:List Pd):Prop:=
 Fc Tryz.prog f En.tsk kvTsk EnKs g xs qs (fun j:List Unit × List (Tsk × List Unit)=>zke d i j.1∧zk0 d j.2) (fun j=>Pd.rep EnKs j.1) (fun j=>j.2)
abbrev ValsOk (d:List SNode) (g:Nat) (i:Int) (n:SNode) (xs:List (Tsk × List Unit)):Prop:=CntFc 102 d g i xs [Pd.ptr EnRd (d,[],some g),Pd.rep EnTk (tkN i n 0 0)]
abbrev FindOk (d:List SNode) (g:Nat) (i:Int) (n:SNode) (xs:List (Tsk × List Unit)):Prop:=CntFc 125 d g i xs [Pd.ptr EnRd (d,[],some g),Pd.rep EnTk (tkN i n 0 0)]
theorem values_step {d:List SNode} {g:Nat} {i:Int} {n:SNode} (hn:at? d i=some n) (hF:∀xs,zk0 d xs→FindOk d g i n xs) {xs:List (Tsk × List Unit)} (hxs:zk0 d xs):ValsOk d g i n xs:=by
 refine fc_of Tryz.func102 rfl Tryz.ntmps102 (by rfl) (by simp) fun s0 a hL=>?_;have h5:In5 (tkN i n 0 0):=tk_in5 (hL.get 1 rfl)
 let k:Tsk:=⟨tkN i n 0 0,h5⟩
 refine wp_seq_k fun K1 hK1=>?_;refine rg ?_;refine st 3 (zgd (o_t 1 rfl) rfl rfl) rfl rfl hL fun a s e_ hL=>?_;refine st 4 (zp (q:=Pd.any) (fun _ _ _ _ _ _=>trivial) rfl rfl) rfl rfl hL fun a s e_ hL=>?_;refine en' ?_;show K1 a s.w;refine hK1 _ _ ?_;refine wp_seq_k fun K2 hK2=>?_;refine wp_seq_k fun K3 hK3=>?_;replace hL:=hL.keep (L':=[(0,Pd.ptr EnRd (d,[],some g)),(3,Pd.ptr EnTk (tkN i n 0 0)),(999902,Pd.mapc En.tsk kvTsk EnKs g xs)]) (.cons (t:=0) rfl nE (.cons (t:=3) rfl nE (.cons (t:=999902) rfl (fun _ _ h_=>h_) .nil)));refine rda zck 11 [Pd.ptr EnRd (d,[],some g),Pd.ptr EnRd (d,[],some g),Pd.ptr En.mref (some g),Pd.rep En.mref (some g),Pd.rep EnTk (tkN i n 0 0),Pd.tup2 (Pd.rep EnKs (zd4 xs k [])) (Pd.rep En.bool (zha xs k)),Pd.tup2 (Pd.rep EnKs (zd4 xs k [])) (Pd.rep En.bool (zha xs k)),Pd.rep EnKs (zd4 xs k []),Pd.rep En.bool (zha xs k),Pd.rep EnKs (zd4 xs k []),Pd.rep En.bool (zha xs k)] hL (by kernel_rfl) rfl rfl ?_ ?_
 ·refine zbe.cons (zj (o_t 0 rfl) rfl rfl) ?_;refine zbe.cons (t_nc (o_t 9 rfl) zff rfl rfl) ?_;refine zbe.cons (zdb (off:=2) (o_t 10 rfl) Tryz.underlying181 rfl (ze (ze (zn _ _) rfl) rfl) rfl tyMr rfl rfl) ?_;refine zbe.cons (zw tyMr (o_t 11 rfl) rfl rfl) ?_;refine zbe.cons (zw tyTk (o_t 3 rfl) rfl rfl) ?_;refine zbe.cons (t_mgetcok (m:=999902) rfl (o_t 12 rfl) (o_tsk (x:=k) (o_t 13 rfl)) Tryz.underlying179 keyTsk tyvKs rfl rfl) ?_;refine zbe.cons (zj (o_t 14 rfl) rfl rfl) ?_;refine zbe.cons (zqd (o_t 8 rfl) rfl rfl) ?_;refine zbe.cons (zn2 (o_t 8 rfl) rfl rfl) ?_;refine zbe.cons (zp (o_t 15 rfl) rfl rfl) ?_;refine zbe.cons (zp (o_t 16 rfl) rfl rfl) ?_;exact zbe.nil
 intro a s e_ hL;refine en' ?_;show K3 a s.w;refine hK3 _ _ ?_;refine wp_seq_k fun K4 hK4=>?_;refine rg ?_;refine st 17 (zj (o_t 6 rfl) rfl rfl) rfl rfl hL fun a s e_ hL=>?_;refine en' ?_;show K4 a s.w;refine hK4 _ _ ?_;refine cnd hL rfl (fun hb_=>?_) (fun hb_=>?_)
 ·refine wp_seq_k fun K5 hK5=>?_;refine rg ?_;refine st 18 (zj (o_t 5 rfl) rfl rfl) rfl rfl hL fun a s e_ hL=>?_;refine st 4 (zp (o_t 18 rfl) rfl rfl) rfl rfl hL fun a s e_ hL=>?_;refine en' ?_;show K5 a s.w;refine hK5 _ _ ?_;exact wp_ret (retc (zd4 xs k [],xs) ⟨hxs.get (k:=k) rfl hb_,hxs⟩ rfl hL rfl rfl)
 refine wp_skip ?_;show K2 a s.w;refine hK2 _ _ ?_;refine wp_seq_k fun K6 hK6=>?_;refine rg ?_;refine st 19 (zj (o_t 0 rfl) rfl rfl) rfl rfl hL fun a s e_ hL=>?_;refine st 20 (zw tyTk (o_t 3 rfl) rfl rfl) rfl rfl hL fun a s e_ hL=>?_;refine zib (L':=[(0,Pd.ptr EnRd (d,[],some g)),(3,Pd.ptr EnTk (tkN i n 0 0))]) 21 999902 hL (hF xs hxs) rfl (.inl rfl) (zs:=[.tmp 19,.tmp 20]) (.cons (o_t 19 rfl) (.cons (o_t 20 rfl) .nil)) rfl rfl rfl rfl
  (.cons (t:=0) rfl nE (.cons (t:=3) rfl nE .nil)) fun a s im him hL=>?_
 obtain ⟨l,ys⟩:=im;obtain ⟨hgl,hys⟩:=him;simp only at hgl hys;refine st 7 (zp (o_t 21 rfl) rfl rfl) rfl rfl hL fun a s e_ hL=>?_;refine en' ?_;show K6 a s.w;refine hK6 _ _ ?_;refine wp_seq_k fun K7 hK7=>?_;replace hL:=hL.keep (L':=[(0,Pd.ptr EnRd (d,[],some g)),(3,Pd.ptr EnTk (tkN i n 0 0)),(7,Pd.rep EnKs l),(999902,Pd.mapc En.tsk kvTsk EnKs g ys)]) (.cons (t:=0) rfl nE (.cons (t:=3) rfl nE (.cons (t:=7) rfl nE (.cons (t:=999902) rfl (fun _ _ h_=>h_) .nil))));refine rda zck 6 [Pd.ptr EnRd (d,[],some g),Pd.ptr EnRd (d,[],some g),Pd.ptr En.mref (some g),Pd.rep En.mref (some g),Pd.rep EnTk (tkN i n 0 0),Pd.rep EnKs l] hL (by kernel_rfl) rfl rfl ?_ ?_
 ·refine zbe.cons (zj (o_t 0 rfl) rfl rfl) ?_;refine zbe.cons (t_nc (o_t 22 rfl) zff rfl rfl) ?_;refine zbe.cons (zdb (off:=2) (o_t 23 rfl) Tryz.underlying181 rfl (ze (ze (zn _ _) rfl) rfl) rfl tyMr rfl rfl) ?_;refine zbe.cons (zw tyMr (o_t 24 rfl) rfl rfl) ?_;refine zbe.cons (zw tyTk (o_t 3 rfl) rfl rfl) ?_;refine zbe.cons (zj (o_t 7 rfl) rfl rfl) ?_;exact zbe.nil
 intro a s e_ hL;refine zq7 (m:=999902) (L':=[(7,Pd.rep EnKs l)]) hL rfl (.inl rfl) (o_t 25 rfl) (o_tsk (x:=k) (o_t 26 rfl)) (o_t 27 rfl) Tryz.underlying179 keyTsk (.inl rfl) rfl rfl (.cons (t:=7) rfl nE .nil) fun s hL=>?_;refine en' ?_;show K7 a s.w;refine hK7 _ _ ?_;refine wp_seq_k fun K8 hK8=>?_;refine rg ?_;refine st 28 (zj (o_t 7 rfl) rfl rfl) rfl rfl hL fun a s e_ hL=>?_;refine st 4 (zp (o_t 28 rfl) rfl rfl) rfl rfl hL fun a s e_ hL=>?_;refine en' ?_;show K8 a s.w;refine hK8 _ _ ?_;exact wp_ret (retc (l,zf4 ys k l) ⟨hgl,hys.put (k:=k) hn rfl hgl⟩ rfl hL rfl rfl)
set_option maxRecDepth 100000
theorem own_g {og:Option Nat} {g N:Nat} (hg:g<N) (h:∀b,og=some b→N≤b):Dis og (some g):=fun k h1 h2=>by cases h2;have:=h g h1;omega
abbrev PrtFc (f:FuncId) (d:List SNode) (g:Nat) (p:Bool) (xs:List (Tsk × List Unit)) (qs:List Pd):Prop:=
 Fc Tryz.prog f En.tsk kvTsk EnKs g xs qs (fun j:List Unit × List (Tsk × List Unit)=>(j.1.length≤2∧(j.1≠[]↔p=true))∧zk0 d j.2) (fun j=>Pd.rep EnKs j.1) (fun j=>j.2)
abbrev rdN (d:List SNode) (g:Nat):SDesc × List Int × Option Nat:=(d,[],some g)
noncomputable abbrev capF (d:List SNode) (g:Nat) (i:Int) (n:SNode):List Pd:=[Pd.ptr (En.pt EnRd) (rdN d g),Pd.ptr En.SNode n,Pd.ptr EnTk (tkN i n 0 0)]
theorem zsi (d:List SNode) (g:Nat) (i:Int) (n:SNode):∀q∈capF d g i n,q.Enc:=zfw zjq (zfw zjq (zfw zjq zf9))
theorem find1_ok {d:List SNode} {g:Nat} {i j:Int} {n m:SNode} (hj:n.2.1=j) (hm:at? d j=some m) (hV:∀xs,zk0 d xs→ValsOk d g j m xs) {xs:List (Tsk × List Unit)} (hxs:zk0 d xs):PrtFc 164 d g (zjh d d.length j) xs ([Pd.rep (En.int .i64) 0]++capF d g i n):=by
 refine fc_of Tryz.func164 rfl Tryz.ntmps164 (by rfl) (by simp) fun s0 a hL=>?_;replace hL:=hL.keep (L':=[(0,Pd.rep (En.int .i64) 0),(1,Pd.ptr (En.pt EnRd) (rdN d g)),(2,Pd.ptr En.SNode n),(3,Pd.ptr EnTk (tkN i n 0 0)),(999902,Pd.mapc En.tsk kvTsk EnKs g xs)]) (.cons (t:=0) rfl nE (.cons (t:=1) rfl nE (.cons (t:=2) rfl nE (.cons (t:=3) rfl nE (.cons (t:=999902) rfl (fun _ _ h_=>h_) .nil)))));refine wp_seq_k fun K1 hK1=>?_;refine rg ?_;refine st 5 (zp (q:=Pd.any) (fun _ _ _ _ _ _=>trivial) rfl rfl) rfl rfl hL fun a s e_ hL=>?_;refine en' ?_;show K1 a s.w;refine hK1 _ _ ?_;refine wp_seq_k fun K2 hK2=>?_;replace hL:=hL.keep (L':=[(0,Pd.rep (En.int .i64) 0),(1,Pd.ptr (En.pt EnRd) (rdN d g)),(2,Pd.ptr En.SNode n),(3,Pd.ptr EnTk (tkN i n 0 0)),(999902,Pd.mapc En.tsk kvTsk EnKs g xs)]) (.cons (t:=0) rfl nE (.cons (t:=1) rfl nE (.cons (t:=2) rfl nE (.cons (t:=3) rfl nE (.cons (t:=999902) rfl (fun _ _ h_=>h_) .nil)))));subst hj;refine rda zck 8 [Pd.rep (En.pt EnRd) (rdN d g),Pd.rep (En.pt EnRd) (rdN d g),Pd.ptr (En.int .i64) n.2.1,Pd.rep (En.int .i64) n.2.1,Pd.ptr (En.int .i64) 0,Pd.rep (En.int .i64) 0,Pd.rep (En.int .i64) 0,Pd.rep EnTk (tkN n.2.1 m 0 0)] hL (by kernel_rfl) rfl rfl ?_ ?_
 ·refine zbe.cons (zw zq2 (o_t 1 rfl) rfl rfl) ?_;refine zbe.cons (zw zq2 (o_t 1 rfl) rfl rfl) ?_;refine zbe.cons (zdb (off:=1) (o_t 2 rfl) Tryz.underlying42 rfl (ze (zx (zn _ _)) rfl) rfl ty3 rfl rfl) ?_;refine zbe.cons (zw ty3 (o_t 8 rfl) rfl rfl) ?_;refine zbe.cons (zdb (off:=3) (o_t 3 rfl) Tryz.underlying184 rfl (ze (ze (ze (zx (zn _ _)) rfl) rfl) rfl) rfl ty3 rfl rfl) ?_;refine zbe.cons (zw ty3 (o_t 10 rfl) rfl rfl) ?_;refine zbe.cons (zj (o_t 0 rfl) rfl rfl) ?_;refine zbe.cons (zdl (zh7 hm) (xs:=[.tmp 7,.tmp 9,.tmp 11,.tmp 12]) (.cons (o_tp (o_t 7 rfl)) (.cons (o_t 9 rfl) (.cons (o_t 11 rfl) (.cons (o_t 12 rfl) .nil)))) rfl rfl) ?_;exact zbe.nil
 intro a s e_ hL;refine zib (L':=[]) 14 999902 hL (hV xs hxs) rfl (.inl rfl) (zs:=[.tmp 6,.tmp 13]) (.cons (o_tp (o_t 6 rfl)) (.cons (o_t 13 rfl) .nil)) rfl rfl rfl rfl .nil fun a s im him hL=>?_;refine st 5 (zp (o_t 14 rfl) rfl rfl) rfl rfl hL fun a s e_ hL=>?_;refine en' ?_;show K2 a s.w;refine hK2 _ _ ?_;exact wp_ret (retc im him rfl hL rfl rfl)
theorem find2_ok {d:List SNode} {g:Nat} {i j:Int} {n m:SNode} (hj:n.2.2.1=j) (hm:at? d j=some m) (hV:∀xs,zk0 d xs→ValsOk d g j m xs) {xs:List (Tsk × List Unit)} (hxs:zk0 d xs):PrtFc 165 d g (zjh d d.length j) xs ([Pd.rep (En.int .i64) 0]++capF d g i n):=by
 refine fc_of Tryz.func165 rfl Tryz.ntmps165 (by rfl) (by simp) fun s0 a hL=>?_;replace hL:=hL.keep (L':=[(0,Pd.rep (En.int .i64) 0),(1,Pd.ptr (En.pt EnRd) (rdN d g)),(2,Pd.ptr En.SNode n),(3,Pd.ptr EnTk (tkN i n 0 0)),(999902,Pd.mapc En.tsk kvTsk EnKs g xs)]) (.cons (t:=0) rfl nE (.cons (t:=1) rfl nE (.cons (t:=2) rfl nE (.cons (t:=3) rfl nE (.cons (t:=999902) rfl (fun _ _ h_=>h_) .nil)))));refine wp_seq_k fun K1 hK1=>?_;refine rg ?_;refine st 5 (zp (q:=Pd.any) (fun _ _ _ _ _ _=>trivial) rfl rfl) rfl rfl hL fun a s e_ hL=>?_;refine en' ?_;show K1 a s.w;refine hK1 _ _ ?_;refine wp_seq_k fun K2 hK2=>?_;replace hL:=hL.keep (L':=[(0,Pd.rep (En.int .i64) 0),(1,Pd.ptr (En.pt EnRd) (rdN d g)),(2,Pd.ptr En.SNode n),(3,Pd.ptr EnTk (tkN i n 0 0)),(999902,Pd.mapc En.tsk kvTsk EnKs g xs)]) (.cons (t:=0) rfl nE (.cons (t:=1) rfl nE (.cons (t:=2) rfl nE (.cons (t:=3) rfl nE (.cons (t:=999902) rfl (fun _ _ h_=>h_) .nil)))));subst hj;refine rda zck 8 [Pd.rep (En.pt EnRd) (rdN d g),Pd.rep (En.pt EnRd) (rdN d g),Pd.ptr (En.int .i64) n.2.2.1,Pd.rep (En.int .i64) n.2.2.1,Pd.rep (En.int .i64) 0,Pd.ptr (En.int .i64) 0,Pd.rep (En.int .i64) 0,Pd.rep EnTk (tkN n.2.2.1 m 0 0)] hL (by kernel_rfl) rfl rfl ?_ ?_
 ·refine zbe.cons (zw zq2 (o_t 1 rfl) rfl rfl) ?_;refine zbe.cons (zw zq2 (o_t 1 rfl) rfl rfl) ?_;refine zbe.cons (zdb (off:=2) (o_t 2 rfl) Tryz.underlying42 rfl (ze (ze (zx (zn _ _)) rfl) rfl) rfl ty3 rfl rfl) ?_;refine zbe.cons (zw ty3 (o_t 8 rfl) rfl rfl) ?_;refine zbe.cons (zj (o_t 0 rfl) rfl rfl) ?_;refine zbe.cons (zdb (off:=4) (o_t 3 rfl) Tryz.underlying184 rfl (ze (ze (ze (ze (zn _ _) rfl) rfl) rfl) rfl) rfl ty3 rfl rfl) ?_;refine zbe.cons (zw ty3 (o_t 11 rfl) rfl rfl) ?_;refine zbe.cons (zdl (zh7 hm) (xs:=[.tmp 7,.tmp 9,.tmp 10,.tmp 12]) (.cons (o_tp (o_t 7 rfl)) (.cons (o_t 9 rfl) (.cons (o_t 10 rfl) (.cons (o_t 12 rfl) .nil)))) rfl rfl) ?_;exact zbe.nil
 intro a s e_ hL;refine zib (L':=[]) 14 999902 hL (hV xs hxs) rfl (.inl rfl) (zs:=[.tmp 6,.tmp 13]) (.cons (o_tp (o_t 6 rfl)) (.cons (o_t 13 rfl) .nil)) rfl rfl rfl rfl .nil fun a s im him hL=>?_;refine st 5 (zp (o_t 14 rfl) rfl rfl) rfl rfl hL fun a s e_ hL=>?_;refine en' ?_;show K2 a s.w;refine hK2 _ _ ?_;exact wp_ret (retc im him rfl hL rfl rfl)
theorem find3_ok {n:SNode}:Fn Tryz.prog 166 ([Pd.rep En.vtw (),Pd.rep En.vtw ()]++[Pd.ptr En.SNode n]) (Rq (Pd.rep En.vtw ())):=by
 refine zbn Tryz.func166 rfl Tryz.ntmps166 (by rfl) (by simp) fun s0 a hL=>?_;refine wp_seq_k fun K1 hK1=>?_;refine rg ?_;refine st 3 (zgd (o_t 0 rfl) rfl rfl) rfl rfl hL fun a s e_ hL=>?_;refine st 4 (zgd (o_t 1 rfl) rfl rfl) rfl rfl hL fun a s e_ hL=>?_;refine zz En.vtw (z:=()) 5 hL tyzVw rfl rfl rfl rfl fun a s g5 hg5 hL=>?_;refine en' ?_;show K1 a s.w;refine hK1 _ _ ?_;refine wp_seq_k fun K2 hK2=>?_;refine rg ?_;refine st 6 (zdb (off:=0) (o_t 2 rfl) Tryz.underlying42 rfl (zx (zn _ _)) rfl ty3 rfl rfl) rfl rfl hL fun a s e_ hL=>?_;refine st 7 (zw ty3 (o_t 6 rfl) rfl rfl) rfl rfl hL fun a s e_ hL=>?_;refine st 8 (zw zhq (o_t 3 rfl) rfl rfl) rfl rfl hL fun a s e_ hL=>?_;refine st 9 (zw zhq (o_t 4 rfl) rfl rfl) rfl rfl hL fun a s e_ hL=>?_;refine st 10 (zn1 (E:=En.vtw) (es:=[(),()]) (xs:=[.tmp 8,.tmp 9]) (.cons (o_t 8 rfl) (.cons (o_t 9 rfl) .nil)) Tryz.underlying143 zhq rfl rfl (by decide) rfl rfl) rfl rfl hL fun a s e_ hL=>?_;refine st 11 (zbj (x:=((n.1,0,[],0,[(),()]):SVal)) (ps:=[(0,.tmp 7),(4,.tmp 10)]) (tyzVt (E:=En.vtw)) rfl sttVt (.cons (i:=0) (o_t 7 rfl) rfl (z7 (zo _ _ _)) (.cons (i:=4) (o_t 10 rfl) rfl (zk (zk (zk (zk (zo _ _ _) rfl) rfl) rfl) rfl) .nil)) rfl rfl) rfl rfl hL fun a s e_ hL=>?_;refine zgs (x1:=()) (L':=[]) 5 hL rfl (o_vt (o_t 11 rfl)) zhq rfl rfl rfl .nil fun s hL=>?_;refine en' ?_;show K2 a s.w;refine hK2 _ _ ?_;exact wp_ret (retb rfl zhq hL rfl)
theorem cross0_ok {rd:SDesc × List Int × Option Nat} {x:Int × Int × Int × Int × Int} (h0:x.2.2.2.2=0) {f1 f2 f3:FuncId} {cs1 cs2 cs3:List Pd} {e1:∀q∈cs1,q.Enc} {e2:∀q∈cs2,q.Enc} {e3:∀q∈cs3,q.Enc}:
  Fn Tryz.prog 163 [Pd.ptr EnRd rd,Pd.rep EnTk x,Pd.fv f1 cs1 e1,Pd.fv f2 cs2 e2,Pd.rep (En.int .i64) 1,Pd.fv f3 cs3 e3] (Rq (Pd.rep EnKs [])):=by
 refine zbn Tryz.func163 rfl Tryz.ntmps163 (by rfl) (by simp) fun s0 a hL=>?_;refine wp_seq_k fun K1 hK1=>?_;refine rg ?_;refine st 7 (zgd (o_t 1 rfl) rfl rfl) rfl rfl hL fun a s e_ hL=>?_;refine st 12 (zp (q:=Pd.any) (fun _ _ _ _ _ _=>trivial) rfl rfl) rfl rfl hL fun a s e_ hL=>?_;refine en' ?_;show K1 a s.w;refine hK1 _ _ ?_;refine wp_seq_k fun K2 hK2=>?_;refine rg ?_;refine st 13 (zp (o_nilr (E:=En.vtw)) rfl rfl) rfl rfl hL fun a s e_ hL=>?_;refine en' ?_;show K2 a s.w;refine hK2 _ _ ?_;refine wp_seq_k fun K3 hK3=>?_;refine wp_seq_k fun K4 hK4=>?_;refine rg ?_;refine st 20 (zj (o_t 4 rfl) rfl rfl) rfl rfl hL fun a s e_ hL=>?_;refine st 14 (zp (o_t 20 rfl) rfl rfl) rfl rfl hL fun a s e_ hL=>?_;refine en' ?_;show K4 a s.w;refine hK4 _ _ ?_;refine wp_block ?_;refine lpg (fun k a s=>Has N0 61 s0 a s [(7,Pd.ptr EnTk x),(13,Pd.rep EnKs []),(14,Pd.rep (En.int .i64) 1)]) 1 (hL.keep (.cons (t:=7) rfl nE (.cons (t:=13) rfl nE (.cons (t:=14) rfl nE .nil)))) ?_;intro k a s hL KL hKL;refine wp_seq_k fun K5 hK5=>?_;refine wp_seq_k fun K6 hK6=>?_;refine rg ?_;refine st 21 (zj (o_t 14 rfl) rfl rfl) rfl rfl hL fun a s e_ hL=>?_;refine st 22 (zdb (off:=4) (o_t 7 rfl) Tryz.underlying184 rfl (ze (ze (ze (ze (zn _ _) rfl) rfl) rfl) rfl) rfl ty3 rfl rfl) rfl rfl hL fun a s e_ hL=>?_;refine st 23 (zw ty3 (o_t 22 rfl) rfl rfl) rfl rfl hL fun a s e_ hL=>?_;refine st 24 (t_leq (o_t 21 rfl) (o_t 23 rfl) rfl rfl) rfl rfl hL fun a s e_ hL=>?_;refine st 25 (zj (o_t 24 rfl) rfl rfl) rfl rfl hL fun a s e_ hL=>?_
 refine st 26 (zfk rfl rfl rfl (fun hc_=>zj (o_t 13 rfl) rfl rfl)) rfl rfl hL fun a s e_ hL=>?_;refine st 27 (zfk rfl rfl rfl (fun hc_=>zi2 (o_w hc_ 26 rfl) Tryz.underlying143 rfl rfl)) rfl rfl hL fun a s e_ hL=>?_;refine st 28 (zfk rfl rfl rfl (fun hc_=>zi1 (o_w hc_ 27 rfl) (o_i (k:=.i64) (by decide)) rfl rfl)) rfl rfl hL fun a s e_ hL=>?_;refine st 29 (zpm (o_t 25 rfl) (fun hc2_=>(o_w hc2_ 28 rfl)) rfl rfl) rfl rfl hL fun a s e_ hL=>?_;refine en' ?_;show K6 a s.w;refine hK6 _ _ ?_;refine cnd hL rfl (fun hb_=>?_) (fun hb_=>?_)
 ·exfalso;rw [Bool.and_eq_true] at hb_;have:=dt hb_.1;rw [h0] at this;omega
 refine wp_exit ?_;show K3 a s.w;refine hK3 _ _ ?_;refine wp_seq_k fun K7 hK7=>?_;refine rg ?_;refine st 60 (zj (o_t 13 rfl) rfl rfl) rfl rfl hL fun a s e_ hL=>?_;refine st 12 (zp (o_t 60 rfl) rfl rfl) rfl rfl hL fun a s e_ hL=>?_;refine en' ?_;show K7 a s.w;refine hK7 _ _ ?_;exact wp_ret (zdr rfl hL rfl)
theorem frame_ok {rd:SDesc × List Int × Option Nat} {x:Int × Int × Int × Int × Int} (h0:x.2.2.2.1=0) (h1:x.2.2.2.2=0) {n:SNode} {h:Int} (hh:h=1∨h=2):Fn Tryz.prog 170 [Pd.ptr EnRd rd,Pd.rep EnTk x,Pd.rep En.SNode n,Pd.rep (En.int .i64) h] (Rq (Pd.rep EnKs [])):=by
 obtain ⟨x0,x1,x2,x3,x4⟩:=x;simp only at h0 h1;subst h0;subst h1;refine zbn Tryz.func170 rfl Tryz.ntmps170 (by rfl) (by simp) fun s0 a hL=>?_;refine wp_seq_k fun K1 hK1=>?_;refine rg ?_;refine st 5 (zgd (o_t 1 rfl) rfl rfl) rfl rfl hL fun a s e_ hL=>?_;refine st 6 (zgd (o_t 2 rfl) rfl rfl) rfl rfl hL fun a s e_ hL=>?_;refine st 8 (zp (q:=Pd.any) (fun _ _ _ _ _ _=>trivial) rfl rfl) rfl rfl hL fun a s e_ hL=>?_;refine en' ?_;show K1 a s.w;refine hK1 _ _ ?_;refine wp_seq_k fun K2 hK2=>?_;refine rg ?_;refine st 12 (zdb (off:=4) (o_t 5 rfl) Tryz.underlying184 rfl (ze (ze (ze (ze (zn _ _) rfl) rfl) rfl) rfl) rfl ty3 rfl rfl) rfl rfl hL fun a s e_ hL=>?_;refine st 13 (zw ty3 (o_t 12 rfl) rfl rfl) rfl rfl hL fun a s e_ hL=>?_;refine st 14 (zdb (off:=3) (o_t 5 rfl) Tryz.underlying184 rfl (ze (ze (ze (zx (zn _ _)) rfl) rfl) rfl) rfl ty3 rfl rfl) rfl rfl hL fun a s e_ hL=>?_;refine st 15 (zw ty3 (o_t 14 rfl) rfl rfl) rfl rfl hL fun a s e_ hL=>?_;refine st 16 (zlw (a:=0) (b:=0) (o_t 13 rfl) (o_t 15 rfl) (by decide) rfl rfl) rfl rfl hL fun a s e_ hL=>?_;refine st 17 (zj (o_t 3 rfl) rfl rfl) rfl rfl hL fun a s e_ hL=>?_;refine st 18 (zlw (o_t 16 rfl) (o_t 17 rfl) (zi (by omega) (by omega)) rfl rfl) rfl rfl hL fun a s e_ hL=>?_;refine st 9 (zp (o_t 18 rfl) rfl rfl) rfl rfl hL fun a s e_ hL=>?_;refine en' ?_;show K2 a s.w;refine hK2 _ _ ?_;refine wp_seq_k fun K3 hK3=>?_;refine rg ?_;refine st 10 (zp (o_i (k:=.i64) (x:=0) (by decide)) rfl rfl) rfl rfl hL fun a s e_ hL=>?_;refine en' ?_;show K3 a s.w
 refine hK3 _ _ ?_;refine wp_seq_k fun K4 hK4=>?_;refine wp_seq_k fun K5 hK5=>?_;refine rg ?_;refine st 19 (zdb (off:=3) (o_t 5 rfl) Tryz.underlying184 rfl (ze (ze (ze (zx (zn _ _)) rfl) rfl) rfl) rfl ty3 rfl rfl) rfl rfl hL fun a s e_ hL=>?_;refine st 20 (zw ty3 (o_t 19 rfl) rfl rfl) rfl rfl hL fun a s e_ hL=>?_;refine st 11 (zp (o_t 20 rfl) rfl rfl) rfl rfl hL fun a s e_ hL=>?_;refine en' ?_;show K5 a s.w;refine hK5 _ _ ?_;refine wp_block ?_;refine lpg (fun k a s=>Has N0 65 s0 a s [(3,Pd.rep (En.int .i64) h),(5,Pd.ptr EnTk (x0,x1,x2,0,0)),(9,Pd.rep (En.int .i64) (0-0-h)),(10,Pd.rep (En.int .i64) 0),(11,Pd.rep (En.int .i64) 0)]) 1 (hL.keep (.cons (t:=3) rfl nE (.cons (t:=5) rfl nE (.cons (t:=9) rfl nE (.cons (t:=10) rfl nE (.cons (t:=11) rfl nE .nil)))))) ?_;intro k a s hL KL hKL;refine wp_seq_k fun K6 hK6=>?_;refine wp_seq_k fun K7 hK7=>?_;refine rg ?_;refine st 21 (zj (o_t 11 rfl) rfl rfl) rfl rfl hL fun a s e_ hL=>?_;refine st 22 (zdb (off:=3) (o_t 5 rfl) Tryz.underlying184 rfl (ze (ze (ze (zx (zn _ _)) rfl) rfl) rfl) rfl ty3 rfl rfl) rfl rfl hL fun a s e_ hL=>?_;refine st 23 (zw ty3 (o_t 22 rfl) rfl rfl) rfl rfl hL fun a s e_ hL=>?_;refine st 24 (zj (o_t 3 rfl) rfl rfl) rfl rfl hL fun a s e_ hL=>?_;refine st 25 (zi6 (o_t 23 rfl) (o_t 24 rfl) (zi (by simp only;omega) (by simp only;omega)) rfl rfl) rfl rfl hL fun a s e_ hL=>?_;refine st 26 (zdb (off:=4) (o_t 5 rfl) Tryz.underlying184 rfl (ze (ze (ze (ze (zn _ _) rfl) rfl) rfl) rfl) rfl ty3 rfl rfl) rfl rfl hL fun a s e_ hL=>?_
 refine st 27 (zw ty3 (o_t 26 rfl) rfl rfl) rfl rfl hL fun a s e_ hL=>?_;refine st 28 (t_min (o_t 25 rfl) (o_t 27 rfl) rfl rfl) rfl rfl hL fun a s e_ hL=>?_;refine st 29 (zi1 (o_t 21 rfl) (o_t 28 rfl) rfl rfl) rfl rfl hL fun a s e_ hL=>?_;refine en' ?_;show K7 a s.w;refine hK7 _ _ ?_;refine cnd hL rfl (fun hb_=>?_) (fun hb_=>?_)
 ·exfalso;have:=dt hb_;simp only at this;omega
 refine wp_exit ?_;show K4 a s.w;refine hK4 _ _ ?_;have hlt:decide ((0:Int)-0-h<0)=true:=decide_eq_true (by omega);refine wp_seq_k fun K8 hK8=>?_;refine wp_seq_k fun K9 hK9=>?_;refine rg ?_;refine st 43 (zj (o_t 9 rfl) rfl rfl) rfl rfl hL fun a s e_ hL=>?_;refine st 44 (zi1 (o_t 43 rfl) (o_i (k:=.i64) (x:=0) (by decide)) rfl rfl) rfl rfl hL fun a s e_ hL=>?_;refine st 45 (zj (o_t 44 rfl) rfl rfl) rfl rfl hL fun a s e_ hL=>?_;refine st 46 (zfk (q:=Pd.any) rfl rfl rfl (fun hc_=>by rw [hlt] at hc_;cases hc_)) rfl rfl hL fun a s e_ hL=>?_;refine st 47 (zfk (q:=Pd.any) rfl rfl rfl (fun hc_=>by rw [hlt] at hc_;cases hc_)) rfl rfl hL fun a s e_ hL=>?_;refine st 48 (zfk (q:=Pd.any) rfl rfl rfl (fun hc_=>by rw [hlt] at hc_;cases hc_)) rfl rfl hL fun a s e_ hL=>?_;refine st 49 (t_or (b:=false) (o_t 45 rfl) (fun hc2_=>by rw [hlt] at hc2_;cases hc2_) rfl rfl) rfl rfl hL fun a s e_ hL=>?_;refine en' ?_;show K9 a s.w;refine hK9 _ _ ?_;refine cnd hL rfl (fun hb2_=>?_) (fun hb2_=>by rw [hlt] at hb2_;cases hb2_);refine wp_seq_k fun K10 hK10=>?_;refine rg ?_;refine st 8 (zp (o_nilr (E:=En.vtw)) rfl rfl) rfl rfl hL fun a s e_ hL=>?_;refine en' ?_;show K10 a s.w;refine hK10 _ _ ?_;exact wp_ret (zdr rfl hL rfl)
end Go.Proofs.YtjdaaiodniicoaaGreatDoor.V
