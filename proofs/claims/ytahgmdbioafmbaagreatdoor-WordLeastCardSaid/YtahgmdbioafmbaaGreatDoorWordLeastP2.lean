/-
  The texts that the law's proof needs, part 2.
-/
import Derived.BigCall
import Derived.Lib.AppendIntMem
import Derived.Lib.ItoaLen
import Derived.Lib.ItoaNum
import Derived.Lib.SlBytesConst
import Derived.Shelf.LaysM
import Derived.Shelf.SlLaysF
import Derived.Shelf.SlLaysF0
import Derived.Shelf.Strconv.Itoa3
import Derived.Shelf.Strings.BuilderK
import Derived.WalkKit
import Derived.Test.YtahgmdbioafmbaaGreatDoorWordLeastP1

namespace Go.Proofs.YtahgmdbioafmbaaGreatDoor.V
open Go
set_option linter.unusedVariables false
abbrev SItem:Type:=Int × Int × Int × Int
abbrev SOn_scantling_api_State_search:Type:=Int × (List (List SItem))
abbrev SNode:Type:=Int × Int × Int × Int × Int × Cl × Str
abbrev SDesc:Type:=(List SNode)
abbrev SVerdict:Type:=Int × (List Int) × (List Int) × Int × Int × Int × Int
abbrev SBranch:Type:=(List SItem) × Int
abbrev Sof_word:Type:=SDesc
abbrev SFound_scantling_api_State_search:Type:=SVerdict × (List (List SItem))
abbrev SSpace_scantling_api_State_search:Type:=(List (List SItem)) × ((List (List SItem)) × Str→Prop) × ((List (List SItem)) × (List SOn_scantling_api_State_search)→Prop) × ((List (List SItem)) × Bool→Prop)
abbrev Smade_scantling_api_State_search:Type:=(List (List SItem)) × Int × Int
abbrev Sstep_next:Type:=SNode × SItem × Int
def zdc (x:SItem):List Int:=[x.1,x.2.1,x.2.2.1,x.2.2.2]
def zey (s:List SItem):List Int:=s.flatMap zdc
def zk3 (l:List Int):Str:=l.flatMap fun n=>Lib.itoa n++[32]
def keyS (s:List SItem):Str:=zk3 (zey s)
def zk5 (s:List SItem) (r:Str):Prop:=s.length≤1000∧r=keyS s
def zdw (x:List SItem) (n:Int) (r:List SItem):Prop:=0≤n∧n≤2147483648∧r=[]
def sgnI (x y:Int):Int:=if x<y then -1 else if y<x then 1 else 0
def zh1:List Int→List Int→Int
 | x::a,y::b=>if x<y then -1 else if y<x then 1 else zh1 a b
 | _,_=>0
def zr8:List Int→Int
 | []=>0
 | x::l=>if x≠0 then x else zr8 l
def numsL (s:List SItem):List Int:=(s.length:Int)::zey s
def cmpItem (x y:SItem):Int:=zr8 [sgnI x.1 y.1,sgnI x.2.1 y.2.1,sgnI x.2.2.1 y.2.2.1,sgnI x.2.2.2 y.2.2.2]
def zez (a b:List SItem):Int:=zh1 (numsL a) (numsL b)
def zfb (d:List SNode) (x:SItem):Bool:=
 if x.1=5 then (x.2.1==0&&x.2.2.2==0)&&(decide (0≤x.2.2.1)&&decide (x.2.2.1≤65535))
 else match at? d x.2.1 with
  | none=>false
  | some n=>
   if x.1=1 then x.2.2.1==0&&x.2.2.2==0
   else if x.1=2 then ((n.1==7&&decide (0≤x.2.2.1))&&decide (x.2.2.1≤x.2.2.2))&&decide (x.2.2.2≤n.2.2.2.2.1)
   else if x.1=3 then ((n.1==3&&x.2.2.2==0)&&decide (0≤x.2.2.1))&&decide (x.2.2.1<(n.2.2.2.2.2.2.length:Int))
   else if x.1=4 then ((n.1==9&&x.2.2.2==0)&&decide (0≤x.2.2.1))&&decide (x.2.2.1≤255)
   else false
def opn (d:List SNode):List SItem→List (List SItem)
 | []=>[]
 | x::rest=>
  if x.1=5 then (if x.2.2.1=0 then [rest] else [])
  else match at? d x.2.1 with
  | none=>[]
  | some n=>
   if x.1=2 then (if x.2.2.1=0 then [rest] else [])++(if 0<x.2.2.2 then [(1,n.2.1,0,0)::(2,x.2.1,max (x.2.2.1-1) 0,x.2.2.2-1)::rest] else [])
   else if n.1=1 then [rest]
   else if n.1=3 then [(3,x.2.1,0,0)::rest]
   else if n.1=4 then [(1,n.2.1,0,0)::(1,n.2.2.1,0,0)::rest]
   else if n.1=5 then [(1,n.2.1,0,0)::rest,(1,n.2.2.1,0,0)::rest]
   else if n.1=6 then [rest,(1,n.2.1,0,0)::x::rest]
   else [(2,x.2.1,n.2.2.2.1,n.2.2.2.2.1)::rest]
def rdy (d:List SNode):List SItem→Bool
 | []=>true
 | x::_=>x.1==3||x.1==4||(x.1==1&&match at? d x.2.1 with | some n=>n.1==2||n.1==8||n.1==9 | none=>false)
def lv (d:List SNode):Nat→List SItem→Option (List (List SItem))
 | 0,_=>none
 | h+1,s=>if rdy d s=true then some [s] else ((opn d s).mapM (lv d h)).map List.flatten
def nzN (l:List Bool) (n:SNode):Bool:=
 if n.1=1 then true
 else if n.1=4 then (at? l n.2.1).getD false&&(at? l n.2.2.1).getD false
 else if n.1=5 then (at? l n.2.1).getD false||(at? l n.2.2.1).getD false
 else if n.1=6 then true
 else if n.1=7 then decide (n.2.2.2.1=0)||(at? l n.2.1).getD false
 else false
def nzL (d:List SNode):List Bool:=d.foldl (fun l n=>l++[nzN l n]) []
def nz (d:List SNode) (i:Int):Bool:=(at? (nzL d) i).getD false
structure ROk (d:List SNode):Prop where
 two:∀(i:Int) n,at? d i=some n→(n.1=4∨n.1=5)→(0≤n.2.1∧n.2.1<i)∧(0≤n.2.2.1∧n.2.2.1<i)
 one:∀(i:Int) n,at? d i=some n→(n.1=6∨n.1=7∨n.1=8∨n.1=9)→0≤n.2.1∧n.2.1<i
 rep:∀(i:Int) n,at? d i=some n→n.1=7→0≤n.2.2.2.1∧n.2.2.2.1≤n.2.2.2.2.1∧n.2.2.2.2.1≤255
 kind:∀(i:Int) n,at? d i=some n→1≤n.1∧n.1≤9
 ntx:∀(i:Int) n,at? d i=some n→n.1=3→n.2.2.2.2.2.2≠[]
 nn:∀(i:Int) n,at? d i=some n→(n.1=6∨n.1=7)→nz d n.2.1=false
structure DOk (d:List SNode):Prop where
 len:d.length≤1000
 txt:∀n∈d,n.2.2.2.2.2.2.length≤9223372036854775807
def zd9 (d:List SNode) (s:List SItem):Bool:=s.all (zfb d)
abbrev sat (n:Nat):Int:=((min 2 n:Nat):Int)
structure Can (f:List SItem→Nat) (B:List SBranch):Prop where
 srt:B.Pairwise (fun a b=>zez a.1 b.1<0)
 mem:∀t m,(t,m)∈B↔f t≠0∧m=sat (f t)
def insB (b:SBranch):List SBranch→List SBranch
 | []=>[b]
 | c::l=>if zez b.1 c.1<0 then b::c::l else c::insB b l
def srtB (l:List SBranch):List SBranch:=l.foldr insB []
def zg1 (x r:List SBranch):Prop:=(x.map (·.1)).Nodup∧(∀b∈x,b.1.length≤1000)∧x.length≤2147483648∧r=srtB x
def zj4 (x r:List SBranch):Prop:=(x.map (·.1)).Nodup∧(∀b∈x,b.1.length≤1000)∧x.length≤2147483648∧r=srtB x
def zfo (d:SDesc) (s:List SItem) (r:List SBranch):Prop:=ROk d∧DOk d∧d.length≤400∧d≠[]∧zd9 d s=true∧s.length≤400∧r.length≤2147483648∧∃h L,lv d h s=some L∧Can (fun t=>L.count t) r
def zmp (l:List (List SItem)):Str:=l.flatMap fun s=>keyS s++[47]
def zg2 (l:List (List SItem)) (r:Str):Prop:=l.length≤1000000000∧(∀s∈l,s.length≤1000)∧r=zmp l
def zfl (x r:List (List SItem)):Prop:=(∀b∈x,b.length≤1000)∧x.length≤2147483648∧r.Perm x∧r.Pairwise (fun a b=>zez a b<0)
def sets_On_t (m:List (Str × List SItem)) (r:List (List SItem)):Prop:=zfl (m.map (·.2)) r
section
variable {P : Program} {ops : Array Oper} {o : Oper} {L : Lst}
theorem t_mkmeth {β:Type} {qs:β→List Pd} {R:β→St→St→Value→Prop} {F:β→Prop} {f:FuncId} {cs:List Operand} {qc:List Pd} (hx:zmr L cs qc) (hc:∀(args:Array Value) (w:World),(callFunc f args).run P w = .ok (.enter f args) w)
  (henc:∀q∈qc,q.Enc) (h:∀q,F q→Fn P f (qc++qs q) (R q)) (ho:o.op = .makeFunc (.func f) cs.toArray #[]) (hg:o.guard=none):T P ops o L (Pd.rep (En.fun P qs R) F):=
 T.pure hg fun M n s0 a s hL=>by
  refine ⟨.func (.func f) (cs.map a.eval).toArray #[], ?_,[.func (.func f) (cs.map a.eval).toArray #[]],rfl,.inr ⟨f,(cs.map a.eval).toArray,#[],rfl,hc,fun s1 hgl hf hs q hq vs hv=>?_⟩⟩
  ·unfold execOp;rw [ho];simp [Instr.makeFunc]
  ·have:=(h q hq).run s1 (cs.map a.eval++vs) hgl (zqo (zqn hf hs henc (hx.vals hL)) hv);simpa using this
theorem t_idxco {c:Cl} {k:IntKind} {i:Int} {N off:Nat} {og:Option Nat} {x y:Operand} {t te:TypeId} (hx:Opn L x (Pd.optr En.cls N og off c)) (hy:Opn L y (Pd.rep (En.int k) i)) (h:0≤i∧i<4)
  (ht:P.underlying t=some (.array 4 te)) (hi:(P.info? te).map (·.size)=some 1) (ho:o.op = .indexAddr t x y) (hg:o.guard=none):T P ops o L (Pd.optr (En.int .u64) N og (off+i.toNat) (c.w i)):=
 T.pure hg fun M n s0 ac s hL=>by
  obtain ⟨g,hog,hv,hN,hlt,hX,cs,hc,hR⟩:=hx M n s0 ac s hL;cases hR;have hi':=(zz.1 (hy M n s0 ac s hL)).1;refine ⟨.pointer (some ⟨g,off+i.toNat,none⟩), ?_,g,hog,rfl,hN,hlt,hX,[.int .u64 (c.w i)], ?_,rfl,word_in c i⟩
  ·unfold execOp;rw [ho];have:=zqx (P:=P) (b:=g) (off:=off) (k:=k) h ht hi s.w;simp only [hv,hi',Sem.run_bind,this,Result.andThen_ok,Sem.run_pure]
  ·intro j u hj;cases j with
   | zero=>simp at hj;subst hj;exact hc _ _ (zsf h.1 h.2)
   | succ j=>simp at hj
end
theorem zjd {ops:Array Oper} {o:Oper} {a:Act} {b want:Bool} {j d:Nat} (hg:o.guard=some (j,want)) (hj:(ops[j]?).bind (·.dst)=some d) (hd:a.eval (.tmp d) = .bool b):Region.wanted o (yielded ops a.tmps)=true↔b=want:=by
 simp only [Region.wanted,hg];have:yielded ops a.tmps j=match a.eval (.tmp d) with | .bool x=>some x | _=>none:=by
  unfold yielded;cases ho:ops[j]? with
  | none=>rw [ho] at hj;cases hj
  | some oj=>
   rw [ho] at hj;simp only [Option.bind_some] at hj;simp only [hj,Act.eval,Option.bind_some,Array.getD_eq_getD_getElem?];cases a.tmps[d]? with
   | none=>simp [undef]
   | some v=>cases v <;> rfl
 rw [this,hd];simp
theorem st_blitg {P:Program} {ops:Array Oper} {o1 o2:Oper} {L:Lst} {Q:Exit→Act→World→Prop} {rest:List Oper} {M:Nat→Prop} {n:Nat} {s0:St} {a:Act} {s:St} {te t:TypeId} {xs:List Operand} {es:List Int} {k:Nat} {parts:Array (Nat × Operand)} {b want:Bool} {j dj:Nat} (d1 d:Nat)
  (hg1:o1.guard=some (j,want)) (hg2:o2.guard=some (j,want)) (hj:(ops[j]?).bind (·.dst)=some dj) (hl:lk L dj=some (Pd.rep En.bool b)) (hl2:Nat.beq d1 dj=false)
  (hL:Has M n s0 a s L) (hx:OpL (En.int .u8) L xs es) (ht:P.underlying t=some (.slice te)) (he:P.underlying te=some (.int .u8)) (hE:Ty P te (En.int .u8)) (hk:k=xs.length) (hp:parts=(xs.zipIdx.map fun (x,i)=>(i,x)).toArray) (hs:k*(En.int .u8).sz≤16777216)
  (ho1:o1.op = .buildSlice t k parts) (ho2:o2.op = .convert t t (.tmp d1)) (hd1:o1.dst=some d1) (hn1:Nat.blt d1 n=true) (hd2:o2.dst=some d) (hn2:Nat.blt d n=true)
  (kk:∀a' s',Has M n s0 a' s' ((d,Pd.when (b=want) (Pd.rep (En.slice (En.int .u8)) es))::(d1,Pd.any)::L)→wpList P ops Q rest a' s'.w):wpList P ops Q (o1::o2::rest) a s.w:=by
 have hb:=zb6.1 (hL.get dj hl);have hne:d1≠dj:=fun e=>by subst e;simp at hl2
 by_cases hc:b=want
 ·obtain ⟨hlen,css,hEl,hr⟩:=zlx hx ht hE hk hp hs ho1 hL;refine wpList_step fun K hK=>?_;rw [if_pos ((zjd hg1 hj hb).2 hc)];unfold Oper.wp;rw [hr];refine hK _ _ ?_;simp only [hd1];refine wpList_step fun K2 hK2=>?_;have hb2:(a.put (some d1) (.slice (some ⟨s.w.heap.size,0,none⟩) es.length es.length)).eval (.tmp dj) = .bool b:=by rw [zej hne];exact hb
  rw [if_pos ((zjd hg2 hj hb2).2 hc)];have hcv:=Lib.run_convert_bytes_const (P:=P) s.w t te css.flatten.toArray es.length es.length ht he;have hr2:(execOp (a.put (some d1) (.slice (some ⟨s.w.heap.size,0,none⟩) es.length es.length)).eval o2).run P (s.w.alloc (.cells css.flatten.toArray te)) = .ok (.value (.slice (some ⟨s.w.heap.size,0,none⟩) es.length es.length)) (s.w.alloc (.cells css.flatten.toArray te (css.flatten.toArray.size,css.flatten.toArray.size+1))):=by
   unfold execOp;rw [ho2];simp only [zd1 hL.size hn1,Sem.run_bind,hcv,Result.andThen_ok,Sem.run_pure]
  unfold Oper.wp;show (match (execOp _ o2).run P (s.w.alloc (.cells css.flatten.toArray te)) with | _=>_);rw [hr2];refine hK2 _ _ ?_;simp only [hd2];have h1:Has M n s0 (a.put (some d1) (.slice (some ⟨s.w.heap.size,0,none⟩) es.length es.length)) (s.push (.cells css.flatten.toArray te (css.flatten.toArray.size,css.flatten.toArray.size+1))) ((d1,Pd.any)::L):=hL.put (Ex.push s _) hn1 trivial;refine kk _ (s.push (.cells css.flatten.toArray te (css.flatten.toArray.size,css.flatten.toArray.size+1))) (h1.put (Ex.refl _) hn2 ⟨fun _=>zbs.2 ⟨some ⟨s.w.heap.size,0,none⟩,es.length,rfl,Nat.le_refl _,(fun h=>by cases h), ?_,fun _=>⟨s.w.heap.size,0,css,rfl,⟨by simp [St.push],fun h=>by have:=s.lt _ h;omega⟩,⟨hEl.1,fun i cs x a b=>(En.int .u8).psh (hEl.2 i cs x a b)⟩,zb9 (heap_alloc_new s.w _)⟩⟩,fun h=>absurd hc h⟩);rw [hlen,← hk];have:k≤k*(En.int .u8).sz:=Nat.le_mul_of_pos_right k (En.int .u8).pos;simp only [lim];omega
 ·refine wpList_step fun K hK=>?_;rw [if_neg fun h=>hc ((zjd hg1 hj hb).1 h)];refine hK _ _ ?_;simp only [hd1];refine wpList_step fun K2 hK2=>?_;have hb2:(a.put (some d1) undef).eval (.tmp dj) = .bool b:=by rw [zej hne];exact hb
  rw [if_neg fun h=>hc ((zjd hg2 hj hb2).1 h)];refine hK2 _ _ ?_;simp only [hd2];have h1:Has M n s0 (a.put (some d1) undef) s ((d1,Pd.any)::L):=hL.put (Ex.refl s) hn1 trivial;exact kk _ s (h1.put (Ex.refl s) hn2 ⟨fun h=>absurd h hc,fun _=>rfl⟩)
end Go.Proofs.YtahgmdbioafmbaaGreatDoor.V
namespace Go.Proofs.YtahgmdbioafmbaaGreatDoor.V
open Go
set_option linter.unusedVariables false
class Ud (P:Program) (t:TypeId) (d:outParam TypeDesc):Prop where
 h:P.underlying t=some d
class Tq {α:outParam Type} (P:Program) (t:TypeId) (E:outParam (En α)):Prop where
 h:Ty P t E
class Ag {α:Type} (E:En α):Prop where
 h:E.agg=true
instance ag1 {α β:Type} {E:En α} {F:En β}:Ag (En.cat E F):=⟨rfl⟩
class Us (P:Program) (t:TypeId) (n:outParam Nat):Prop where
 h:(P.info? t).map (·.size)=some n
class Fd {α:Type} {β:outParam Type} (P:Program) (t:TypeId) (f:Nat) (E:En α) (a:α) (off:outParam Nat) (E':outParam (En β)) (y:outParam β):Prop where
 h:∃(fs:Array Field) (fd:Field),P.underlying t=some (.struct fs)∧fs[f]?=some fd∧Prt E off E' a y∧fd.offset=off∧Ty P fd.type E'
class Ev {α:Sort _} (a:α) (b:outParam α):Prop where
 h:a=b
instance evr {α:Sort _} {a:α}:Ev a a:=⟨rfl⟩
@[reducible] def lkr:Lst→Nat→Option Pd
 | [],_=>none
 | (d,q)::r,t=>match Nat.beq d t with
  | true=>some q
  | false=>lkr r t
theorem lkr_lk:∀{L:Lst} {t:Nat},lkr L t=lk L t
 | [],_=>rfl
 | (d,q)::r,t=>by
  rw [lk,lkr];cases Nat.beq d t
  ·exact lkr_lk
  ·rfl
class Lx (L:Lst) (t:Nat) (q:outParam Pd):Prop where
 h:lk L t=some q
instance lxi {L:Lst} {t:Nat} {q:Pd} [h:Ev (lkr L t) (some q)]:Lx L t q:=⟨lkr_lk ▸ h.h⟩
class Imp (c d:Prop):Prop where
 h:c→d
instance imp0 {c:Prop}:Imp c c:=⟨id⟩
instance imp2 {a b c:Prop} [h:Imp b c]:Imp (a∧b) c:=⟨fun x=>h.h x.2⟩
class Vw (c:Prop) (q:Pd) (q':outParam Pd):Prop where
 h:∀s v,c→q.p s v→q'.p s v
instance (priority:=low) vw0 {c:Prop} {q:Pd}:Vw c q q:=⟨fun _ _ _ h=>h⟩
instance vw1 {c d:Prop} {q:Pd} [i:Imp c d]:Vw c (Pd.when d q) q:=⟨fun _ _ hc h=>h.1 (i.h hc)⟩
class Ki (k:IntKind) (x:Int):Prop where
 h:InR k x
@[reducible] def inb:IntKind→Int→Bool
 | .i64,.ofNat n=>Nat.ble n 9223372036854775807
 | .u8,.ofNat n=>Nat.ble n 255
 | .u64,.ofNat n=>Nat.ble n 18446744073709551615
 | _,_=>false
instance kix {k:IntKind} {x:Int} [h:Ev (inb k x) true]:Ki k x:=⟨by
 have e:=h.h
 unfold inb at e
 split at e
 all_goals first | (have:=Nat.le_of_ble_eq_true e;simp [InR,IntKind.min,IntKind.max,IntKind.signed,IntKind.bits];omega) | cases e⟩
instance kin {x:Int} [h:Ev (inb .i64 x) true]:Ki .i64 (-x):=⟨by
 have e:=h.h
 unfold inb at e
 split at e
 all_goals first | (have:=Nat.le_of_ble_eq_true e;simp [InR,IntKind.min,IntKind.max,IntKind.signed,IntKind.bits];omega) | cases e | contradiction⟩
class Oc (c:Prop) (L:Lst) (x:Operand) (q:outParam Pd):Prop where
 h:c→Opn L x q
instance oct {c:Prop} {L:Lst} {t:Nat} {q q':Pd} [h:Lx L t q] [v:Vw c q q']:Oc c L (.tmp t) q':=⟨fun hc M n s0 a s hL=>v.h s _ hc (hL.get t h.h)⟩
instance oci {c:Prop} {L:Lst} {k:IntKind} {x:Int} [h:Ki k x]:Oc c L (.const (.int k x)) (Pd.rep (En.int k) x):=⟨fun _=>o_i h.h⟩
instance ocb {c:Prop} {L:Lst} {x:Bool}:Oc c L (.const (.bool x)) (Pd.rep En.bool x):=⟨fun _=>o_b⟩
class Or {α:outParam Type} (c:Prop) (L:Lst) (x:Operand) (E:outParam (En α)) (N:outParam Nat) (te:outParam TypeId) (og:outParam (Option Nat)) (xs:outParam (List α)):Prop where
 h:c→Opn L x (Pd.row E N te og xs)
instance or0 {α:Type} {E:En α} {N te:Nat} {og:Option Nat} {xs:List α} {c:Prop} {L:Lst} {x:Operand} [h:Oc c L x (Pd.row E N te og xs)]:Or c L x E N te og xs:=⟨h.h⟩
instance or1 {α:Type} {E:En α} {te:Nat} {v0:Value} {xs:List α} {c:Prop} {L:Lst} {x:Operand} [h:Oc c L x (Pd.prow E te v0 xs)]:Or c L x E 0 te v0.ownBlock xs:=⟨fun hc=>o_p (h.h hc)⟩
theorem op {L:Lst} {x:Operand} {q:Pd} [h:Oc True L x q]:Opn L x q:=h.h trivial
theorem opc {c:Prop} (hc:c) {L:Lst} {x:Operand} {q:Pd} [h:Oc c L x q]:Opn L x q:=h.h hc
class Oz (c:Prop) (L:Lst) (xs:List Operand) (qs:List Pd):Prop where
 h:c→zmr L xs qs
instance oz0 {c:Prop} {L:Lst}:Oz c L [] []:=⟨fun _=>.nil⟩
instance oz1 {c:Prop} {L:Lst} {x:Operand} {xs:List Operand} {q:Pd} {qs:List Pd} [h:Oc c L x q] [k:Oz c L xs qs]:Oz c L (x::xs) (q::qs):=⟨fun hc=>.cons (h.h hc) (k.h hc)⟩
instance oz2 {α:Type} {E:En α} {c:Prop} {L:Lst} {xs:List Operand} {qs:List Pd} [k:Oz c L xs qs]:Oz c L (.const (.slice none 0 0)::xs) (Pd.rep (En.slice E) []::qs):=⟨fun hc=>.cons o_nilr (k.h hc)⟩
instance oz3 {α:Type} {E:En α} {c:Prop} {L:Lst} {xs:List Operand} {qs:List Pd} [k:Oz c L xs qs]:Oz c L (.const (.slice none 0 0)::xs) (Pd.rep (En.nilv E) []::qs):=⟨fun hc=>.cons o_nilv (k.h hc)⟩
class Ol {α:Type} (E:En α) (c:Prop) (L:Lst) (xs:List Operand) (es:outParam (List α)):Prop where
 h:c→OpL E L xs es
instance ol0 {α:Type} {E:En α} {c:Prop} {L:Lst}:Ol E c L [] []:=⟨fun _=>.nil⟩
instance ol1 {α:Type} {E:En α} {c:Prop} {L:Lst} {x:Operand} {xs:List Operand} {e:α} {es:List α} [h:Oc c L x (Pd.rep E e)] [k:Ol E c L xs es]:Ol E c L (x::xs) (e::es):=⟨fun hc=>.cons (h.h hc) (k.h hc)⟩
theorem opz {L:Lst} {xs:List Operand} {qs:List Pd} [h:Oz True L xs qs]:zmr L xs qs:=h.h trivial
class Lp (parts:Array (Nat × Operand)) (xs:outParam (List Operand)) (n:Nat):Prop where
 h:parts=(xs.zipIdx.map fun (x,i)=>(i,x)).toArray∧n=xs.length
inductive Lq:Nat→List (Nat × Operand)→List Operand→Prop
 | nil {i:Nat}:Lq i [] []
 | cons {i:Nat} {x:Operand} {l:List (Nat × Operand)} {xs:List Operand} (h:Lq (i+1) l xs):Lq i ((i,x)::l) (x::xs)
theorem Lq.e {i:Nat} {l:List (Nat × Operand)} {xs:List Operand} (h:Lq i l xs):l=(xs.zipIdx i).map (fun (x,i)=>(i,x)):=by
 induction h with
 | nil=>rfl
 | cons _ ih=>rw [ih];rfl
class Lr (i:Nat) (l:List (Nat × Operand)) (xs:outParam (List Operand)) (n:outParam Nat):Prop where
 h:Lq i l xs∧n=xs.length
instance lr0 {i:Nat}:Lr i [] [] 0:=⟨.nil,rfl⟩
instance lr1 {i j n:Nat} {x:Operand} {l:List (Nat × Operand)} {xs:List Operand} [e:Ev (Nat.beq i j) true] [h:Lr (i+1) l xs n]:Lr i ((j,x)::l) (x::xs) (n+1):=⟨by rw [← Nat.eq_of_beq_eq_true e.h];exact .cons h.h.1,by rw [h.h.2];rfl⟩
instance lp0 {l:List (Nat × Operand)} {xs:List Operand} {n m:Nat} [h:Lr 0 l xs m] [e:Ev (Nat.beq n m) true]:Lp l.toArray xs n:=⟨by rw [h.h.1.e],by rw [Nat.eq_of_beq_eq_true e.h,h.h.2]⟩
theorem lp_lit {P:Program} {ops:Array Oper} {L:Lst} {α:Type} {E:En α} {t te:TypeId} {xs:List Operand} {es:List α} {n:Nat} {parts:Array (Nat × Operand)} {d:Option Nat} {ty:TypeId} {ps:String} {af:Array Edge} (hx:OpL E L xs es) (ht:P.underlying t=some (.slice te)) (hE:Ty P te E) (h:Lp parts xs n) (hn:n*E.sz≤16777216):T P ops ⟨d,.buildSlice t n parts,ty,ps,af,none⟩ L (Pd.rep (En.slice E) es):=t_lit hx ht hE h.h.2 h.h.1 hn rfl rfl
class Cj (a b:Prop) (c:outParam Prop):Prop where
 h:c→a∧b
instance (priority:=high) cj0 {a:Prop}:Cj True a a:=⟨fun h=>⟨trivial,h⟩⟩
instance (priority:=900) cj1 {a:Prop}:Cj a True a:=⟨fun h=>⟨h,trivial⟩⟩
instance (priority:=low) cj2 {a b:Prop}:Cj a b (a∧b):=⟨id⟩
class Gi (c r:Prop) (r':outParam Prop):Prop where
 h:r'→c→r
instance (priority:=high) gi0 {c:Prop}:Gi c True True:=⟨fun _ _=>trivial⟩
instance (priority:=low) gi1 {c r:Prop}:Gi c r (c→r):=⟨id⟩
class TO (c:Prop) (P:Program) (ops:Array Oper) (o:Oper) (L:Lst) (q:outParam Pd) (r:outParam Prop):Prop where
 h:r→c→T P ops o L q
class TH (p c:Prop) (P:Program) (ops:Array Oper) (o:Oper) (L:Lst) (q:outParam Pd):Prop where
 h:p→c→T P ops o L q
section
variable {c : Prop} {P : Program} {ops : Array Oper} {L : Lst} {d : Option Nat} {ty : TypeId} {ps : String} {af : Array Edge} {x y z : Operand} {t u : TypeId} {k : IntKind} {a b : Int}
instance to1 {q:Pd} [i0:Oc c L x q]:TO c P ops ⟨d,.move x,ty,ps,af,none⟩ L (q) (True):=⟨fun hr hc=>zn (i0.h hc) rfl rfl⟩
instance to2 {q:Pd} [i0:Oc c L x q]:TO c P ops ⟨d,.assign x,ty,ps,af,none⟩ L (q) (True):=⟨fun hr hc=>zw (i0.h hc) rfl rfl⟩
instance to3 {α:Type} {E:En α} {v:α} [i0:Tq P t E] [i1:Oc c L y (Pd.ptr E v)]:TO c P ops ⟨d,.load t y,ty,ps,af,none⟩ L (Pd.rep E v) (True):=⟨fun hr hc=>zb2 i0.h (i1.h hc) rfl rfl⟩
instance to4 {α:Type} {E:En α} {v:α} {N off:Nat} {og:Option Nat} [i0:Tq P t E] [i1:Oc c L y (Pd.optr E N og off v)]:TO c P ops ⟨d,.load t y,ty,ps,af,none⟩ L (Pd.rep E v) (True):=⟨fun hr hc=>zcn i0.h (i1.h hc) rfl rfl⟩
instance to5 {α:Type} {E:En α} {v:α} {N g:Nat} [i0:Tq P t E] [i1:Oc c L y (Pd.box E N g v)]:TO c P ops ⟨d,.load t y,ty,ps,af,none⟩ L (Pd.rep E v) (True):=⟨fun hr hc=>ziq i0.h (i1.h hc) rfl rfl⟩
instance to6 {α β:Type} {E:En α} {E':En β} {v:α} {w:β} {f off:Nat}  [i0:Oc c L x (Pd.ptr E v)] [i1:Fd P t f E v off E' w]:TO c P ops ⟨d,.fieldAddr t x f,ty,ps,af,none⟩ L (Pd.ptr E' w) (True):=⟨fun hr hc=>let ⟨fs,fd,h1,h2,h3,h4,h5⟩:=i1.h;zir (i0.h hc) h1 h2 h3 h4 h5 rfl rfl⟩
instance to7 {α β:Type} {E:En α} {E':En β} {v:α} {w:β} {f off:Nat} {N o':Nat} {og:Option Nat} [i0:Oc c L x (Pd.optr E N og o' v)] [i1:Fd P t f E v off E' w]:TO c P ops ⟨d,.fieldAddr t x f,ty,ps,af,none⟩ L (Pd.optr E' N og (o'+off) w) (True):=⟨fun hr hc=>let ⟨fs,fd,h1,h2,h3,h4,h5⟩:=i1.h;t_fao (i0.h hc) h1 h2 h3 h4 h5 rfl rfl⟩
instance to8 {α β:Type} {E:En α} {E':En β} {v:α} {w:β} {f off:Nat} {N g:Nat} [i0:Oc c L x (Pd.box E N g v)] [i1:Fd P t f E v off E' w]:TO c P ops ⟨d,.fieldAddr t x f,ty,ps,af,none⟩ L (Pd.optr E' N (some g) off w) (True):=⟨fun hr hc=>let ⟨fs,fd,h1,h2,h3,h4,h5⟩:=i1.h;zqr (i0.h hc) h1 h2 h3 h4 h5 rfl rfl⟩
instance to9 {α β:Type} {E:En α} {E':En β} {v:α} {w:β} {f off:Nat}  [i0:Oc c L x (Pd.rep E v)] [i1:Fd P t f E v off E' w] [i2:Ag E]:TO c P ops ⟨d,.field t x f,ty,ps,af,none⟩ L (Pd.rep E' w) (True):=⟨fun hr hc=>let ⟨fs,fd,h1,h2,h3,h4,h5⟩:=i1.h;t_fv (i0.h hc) i2.h h1 h2 h3 h4 h5 rfl rfl⟩
instance to10 [i0:Oc c L x (Pd.rep (En.int k) a)] [i1:Oc c L y (Pd.rep (En.int k) b)]:TO c P ops ⟨d,.binOp .lss t x y u,ty,ps,af,none⟩ L (Pd.rep En.bool (decide (a<b))) (True):=⟨fun hr hc=>zmm (i0.h hc) (i1.h hc) rfl rfl⟩
instance to11 [i0:Oc c L x (Pd.rep (En.int k) a)] [i1:Oc c L y (Pd.rep (En.int k) b)]:TO c P ops ⟨d,.binOp .leq t x y u,ty,ps,af,none⟩ L (Pd.rep En.bool (decide (a≤b))) (True):=⟨fun hr hc=>t_leq (i0.h hc) (i1.h hc) rfl rfl⟩
instance to12 [i0:Oc c L x (Pd.rep (En.int k) a)] [i1:Oc c L y (Pd.rep (En.int k) b)]:TO c P ops ⟨d,.binOp .gtr t x y u,ty,ps,af,none⟩ L (Pd.rep En.bool (decide (b<a))) (True):=⟨fun hr hc=>t_gtr (i0.h hc) (i1.h hc) rfl rfl⟩
instance to13 [i0:Oc c L x (Pd.rep (En.int k) a)] [i1:Oc c L y (Pd.rep (En.int k) b)]:TO c P ops ⟨d,.binOp .geq t x y u,ty,ps,af,none⟩ L (Pd.rep En.bool (decide (b≤a))) (True):=⟨fun hr hc=>t_geq (i0.h hc) (i1.h hc) rfl rfl⟩
instance to14 [i0:Oc c L x (Pd.rep (En.int k) a)] [i1:Oc c L y (Pd.rep (En.int k) b)]:TO c P ops ⟨d,.binOp .eql t x y u,ty,ps,af,none⟩ L (Pd.rep En.bool (a==b)) (True):=⟨fun hr hc=>t_eqi (i0.h hc) (i1.h hc) rfl rfl⟩
instance to15 [i0:Oc c L x (Pd.rep (En.int k) a)] [i1:Oc c L y (Pd.rep (En.int k) b)]:TO c P ops ⟨d,.binOp .neq t x y u,ty,ps,af,none⟩ L (Pd.rep En.bool (a != b)) (True):=⟨fun hr hc=>t_nei (i0.h hc) (i1.h hc) rfl rfl⟩
instance to16 [i0:Oc c L x (Pd.rep (En.int .i64) a)] [i1:Oc c L y (Pd.rep (En.int .i64) b)]:TO c P ops ⟨d,.binOp .add t x y u,ty,ps,af,none⟩ L (Pd.rep (En.int .i64) (a+b)) (InR .i64 (a+b)):=⟨fun hr hc=>zo8 (i0.h hc) (i1.h hc) hr rfl rfl⟩
instance to18 [i0:Oc c L x (Pd.rep (En.int .u64) a)] [i1:Oc c L y (Pd.rep (En.int .u64) b)]:TO c P ops ⟨d,.binOp .add t x y u,ty,ps,af,none⟩ L (Pd.rep (En.int .u64) (IntKind.wrap .u64 (a+b))) (True):=⟨fun hr hc=>t_addw (i0.h hc) (i1.h hc) rfl rfl⟩
instance to19 [i0:Oc c L x (Pd.rep (En.int .i64) a)] [i1:Oc c L y (Pd.rep (En.int .i64) b)]:TO c P ops ⟨d,.binOp .sub t x y u,ty,ps,af,none⟩ L (Pd.rep (En.int .i64) (a-b)) (InR .i64 (a-b)):=⟨fun hr hc=>zo6 (i0.h hc) (i1.h hc) hr rfl rfl⟩
instance to22 [i0:Oc c L x (Pd.rep (En.int .i64) a)] [i1:Oc c L y (Pd.rep (En.int .i64) b)]:TO c P ops ⟨d,.binOp .mul t x y u,ty,ps,af,none⟩ L (Pd.rep (En.int .i64) (a*b)) (InR .i64 (a*b)):=⟨fun hr hc=>t_mul (i0.h hc) (i1.h hc) hr rfl rfl⟩
instance to24 [i0:Oc c L x (Pd.rep (En.int .u64) a)] [i1:Oc c L y (Pd.rep (En.int .u64) b)]:TO c P ops ⟨d,.binOp .mul t x y u,ty,ps,af,none⟩ L (Pd.rep (En.int .u64) (IntKind.wrap .u64 (a*b))) (True):=⟨fun hr hc=>t_mulw (i0.h hc) (i1.h hc) rfl rfl⟩
instance to26 {v:Bool} [i0:Oc c L x (Pd.rep En.bool v)]:TO c P ops ⟨d,.unOp .not t x,ty,ps,af,none⟩ L (Pd.rep En.bool (!v)) (True):=⟨fun hr hc=>t_not (i0.h hc) rfl rfl⟩
instance to29 {v w:Str} [i0:Oc c L x (Pd.rep En.str v)] [i1:Oc c L y (Pd.rep En.str w)]:TO c P ops ⟨d,.binOp .eql t x y u,ty,ps,af,none⟩ L (Pd.rep En.bool (v==w)) (True):=⟨fun hr hc=>t_eqv eqv_str (i0.h hc) (i1.h hc) rfl rfl⟩
instance to32 {v w:Str} [i0:Oc c L x (Pd.rep En.str v)] [i1:Oc c L y (Pd.rep En.str w)]:TO c P ops ⟨d,.binOp .geq t x y u,ty,ps,af,none⟩ L (Pd.rep En.bool (strGe v w)) (True):=⟨fun hr hc=>t_strge (i0.h hc) (i1.h hc) rfl rfl⟩
instance to33 {xs:List Int} {te:TypeId} [i0:Oc c L y (Pd.rep (En.slice (En.int .u8)) xs)] [i1:Ud P t (.slice te)] [i2:Ud P te (.int .u8)] [i3:Ud P u .string]:TO c P ops ⟨d,.convert t u y,ty,ps,af,none⟩ L (Pd.rep En.str (zmy xs)) (True):=⟨fun hr hc=>t_bstr (i0.h hc) i1.h i2.h i3.h rfl rfl⟩
instance to34 {v w:Bool} [i0:Oc c L x (Pd.rep En.bool v)] [i1:Oc (c∧v=true) L y (Pd.rep En.bool w)]:TO c P ops ⟨d,.pick x y (.const (.bool false)),ty,ps,af,none⟩ L (Pd.rep En.bool (v&&w)) (True):=⟨fun hr hc=>t_and (i0.h hc) (fun e=>i1.h ⟨hc,e⟩) rfl rfl⟩
instance to35 {v w:Bool} [i0:Oc c L x (Pd.rep En.bool v)] [i1:Oc (c∧v=false) L y (Pd.rep En.bool w)]:TO c P ops ⟨d,.pick x (.const (.bool true)) y,ty,ps,af,none⟩ L (Pd.rep En.bool (v||w)) (True):=⟨fun hr hc=>t_or (i0.h hc) (fun e=>i1.h ⟨hc,e⟩) rfl rfl⟩
instance to36 {α:Type} {E:En α} {xs:List α} {te:TypeId} [i0:Oc c L y (Pd.rep (En.slice E) xs)] [i1:Ud P t (.slice te)]:TO c P ops ⟨d,.call { callee:=.builtin .len,args:=#[y],argTypes:=#[t] },ty,ps,af,none⟩ L (Pd.rep (En.int .i64) xs.length) (True):=⟨fun hr hc=>znk (i0.h hc) i1.h rfl rfl⟩
instance to37 {α:Type} {E:En α} {xs:List α} {N te te':Nat} {og:Option Nat} [i0:Or c L y E N te og xs] [i1:Ud P t (.slice te')]:TO c P ops ⟨d,.call { callee:=.builtin .len,args:=#[y],argTypes:=#[t] },ty,ps,af,none⟩ L (Pd.rep (En.int .i64) xs.length) (True):=⟨fun hr hc=>t_leno (i0.h hc) i1.h rfl rfl⟩
instance to38 {v:Str} [i0:Oc c L y (Pd.rep En.str v)] [i1:Ud P t .string]:TO c P ops ⟨d,.call { callee:=.builtin .len,args:=#[y],argTypes:=#[t] },ty,ps,af,none⟩ L (Pd.rep (En.int .i64) v.length) (True):=⟨fun hr hc=>t_slen (i0.h hc) i1.h rfl rfl⟩
instance to39 {ats:Array TypeId} [i0:Oc c L x (Pd.rep (En.int k) a)] [i1:Oc c L y (Pd.rep (En.int k) b)]:TO c P ops ⟨d,.call { callee:=.builtin .max,args:=#[x,y],argTypes:=ats },ty,ps,af,none⟩ L (Pd.rep (En.int k) (max a b)) (True):=⟨fun hr hc=>t_max (i0.h hc) (i1.h hc) rfl rfl⟩
instance to40 {ats:Array TypeId} [i0:Oc c L x (Pd.rep (En.int k) a)] [i1:Oc c L y (Pd.rep (En.int k) b)]:TO c P ops ⟨d,.call { callee:=.builtin .min,args:=#[x,y],argTypes:=ats },ty,ps,af,none⟩ L (Pd.rep (En.int k) (min a b)) (True):=⟨fun hr hc=>t_min (i0.h hc) (i1.h hc) rfl rfl⟩
instance to41 {α:Type} {E:En α} {v:α} [i0:Oc c L y (Pd.rep E v)]:TO c P ops ⟨d,.box t y,ty,ps,af,none⟩ L (Pd.ptr E v) (True):=⟨fun hr hc=>zo7 (i0.h hc) rfl rfl⟩
instance to42 {q r:Pd} [i0:Oc c L x (Pd.tup2 q r)]:TO c P ops ⟨d,.extract x 0,ty,ps,af,none⟩ L (q) (True):=⟨fun hr hc=>t_ext0 (i0.h hc) rfl rfl⟩
instance to43 {q r:Pd} [i0:Oc c L x (Pd.tup2 q r)]:TO c P ops ⟨d,.extract x 1,ty,ps,af,none⟩ L (r) (True):=⟨fun hr hc=>znm (i0.h hc) rfl rfl⟩
instance to45 {α:Type} {E:En α} {te:TypeId} {xs:List Operand} {es:List α} {n:Nat} {parts:Array (Nat × Operand)}  [i0:Ud P t (.slice te)] [i1:Tq P te E] [i2:Lp parts xs n] [i3:Ol E c L xs es]:TO c P ops ⟨d,.buildSlice t n parts,ty,ps,af,none⟩ L (Pd.rep (En.slice E) es) (n*E.sz≤16777216):=⟨fun hr hc=>lp_lit (i3.h hc) i0.h i1.h i2 hr⟩
instance to46 [i0:Oc c L y (Pd.rep (En.int k) a)] [i1:Ud P t (.int k)] [i2:Ud P u (.int .u8)]:TO c P ops ⟨d,.convert t u y,ty,ps,af,none⟩ L (Pd.rep (En.int .u8) (a % 256)) (True):=⟨fun hr hc=>t_u8 (i0.h hc) i1.h i2.h rfl rfl⟩
instance to47 [i0:Oc c L y (Pd.rep (En.int .u8) a)] [i1:Ud P t (.int .u8)] [i2:Ud P u (.int .i64)]:TO c P ops ⟨d,.convert t u y,ty,ps,af,none⟩ L (Pd.rep (En.int .i64) a) (True):=⟨fun hr hc=>t_up (i0.h hc) (by decide) i1.h i2.h rfl rfl⟩
instance to51 [i0:Oc c L y (Pd.rep (En.int .i64) a)] [i1:Ud P t (.int .i64)] [i2:Ud P u (.int .u64)]:TO c P ops ⟨d,.convert t u y,ty,ps,af,none⟩ L (Pd.rep (En.int .u64) (IntKind.wrap .u64 a)) (True):=⟨fun hr hc=>t_cvt (i0.h hc) i1.h i2.h rfl rfl⟩
instance to52 [i0:Oc c L y (Pd.rep (En.int .u64) a)] [i1:Ud P t (.int .u64)] [i2:Ud P u (.int .i64)]:TO c P ops ⟨d,.convert t u y,ty,ps,af,none⟩ L (Pd.rep (En.int .i64) (IntKind.wrap .i64 a)) (True):=⟨fun hr hc=>t_cvt (i0.h hc) i1.h i2.h rfl rfl⟩
instance to53 [i0:Oc c L x (Pd.rep (En.int .u64) a)] [i1:Oc c L y (Pd.rep (En.int .u8) b)]:TO c P ops ⟨d,.binOp .shr t x y u,ty,ps,af,none⟩ L (Pd.rep (En.int .u64) (zp4 a b)) (True):=⟨fun hr hc=>t_shr (i0.h hc) (i1.h hc) (by decide) rfl rfl⟩
instance to54 [i0:Oc c L x (Pd.rep (En.int .u64) a)] [i1:Oc c L y (Pd.rep (En.int .u8) b)]:TO c P ops ⟨d,.binOp .shl t x y u,ty,ps,af,none⟩ L (Pd.rep (En.int .u64) (shlI a b)) (True):=⟨fun hr hc=>t_shl (i0.h hc) (i1.h hc) (by decide) rfl rfl⟩
instance to55 [i0:Oc c L x (Pd.rep (En.int .u64) a)] [i1:Oc c L y (Pd.rep (En.int .u64) b)]:TO c P ops ⟨d,.binOp .shr t x y u,ty,ps,af,none⟩ L (Pd.rep (En.int .u64) (zp4 a b)) (True):=⟨fun hr hc=>t_shr (i0.h hc) (i1.h hc) (by decide) rfl rfl⟩
instance to57 [i0:Oc c L x (Pd.rep (En.int .u64) a)] [i1:Oc c L y (Pd.rep (En.int .u64) b)]:TO c P ops ⟨d,.binOp .and t x y u,ty,ps,af,none⟩ L (Pd.rep (En.int .u64) (andI a b)) (True):=⟨fun hr hc=>t_andb (i0.h hc) (i1.h hc) rfl rfl⟩
instance to58 [i0:Oc c L x (Pd.rep (En.int .u64) a)] [i1:Oc c L y (Pd.rep (En.int .u64) b)]:TO c P ops ⟨d,.binOp .or t x y u,ty,ps,af,none⟩ L (Pd.rep (En.int .u64) (orI a b)) (True):=⟨fun hr hc=>t_orb (i0.h hc) (i1.h hc) rfl rfl⟩
instance to59 {α:Type} {E:En α} {xs:List α} {e:α} {te:TypeId} [i0:Oc c L x (Pd.rep (En.slice E) xs)] [i1:Oc c L y (Pd.rep (En.int k) a)] [i2:Ud P t (.slice te)] [i3:Tq P te E]:TH (at? xs a=some e) c P ops ⟨d,.indexAddr t x y,ty,ps,af,none⟩ L (Pd.ptr E e):=⟨fun hr hc=>znl (i0.h hc) (i1.h hc) hr i2.h i3.h rfl rfl⟩
instance to60 {α:Type} {E:En α} {xs:List α} {e:α} {N te te':Nat} {og:Option Nat} [i0:Or c L x E N te' og xs] [i1:Oc c L y (Pd.rep (En.int k) a)] [i2:Ud P t (.slice te)] [i3:Tq P te E]:TH (at? xs a=some e) c P ops ⟨d,.indexAddr t x y,ty,ps,af,none⟩ L (Pd.optr E N og (a.toNat*E.sz) e):=⟨fun hr hc=>zd7 (i0.h hc) (i1.h hc) hr i2.h i3.h rfl rfl⟩
instance to61 {v:Str} {e:Int} [i0:Oc c L x (Pd.rep En.str v)] [i1:Oc c L y (Pd.rep (En.int k) a)] [i2:Ud P t .string]:TH (zd2 v a=some e) c P ops ⟨d,.index t x y,ty,ps,af,none⟩ L (Pd.rep (En.int .u8) e):=⟨fun hr hc=>t_sidx (i0.h hc) (i1.h hc) hr i2.h rfl rfl⟩
instance to62 {α:Type} {E:En α} {xs:List α} {te:TypeId}  [i0:Oc c L y (Pd.rep (En.slice E) xs)] [i1:Oc c L z (Pd.rep (En.int k) a)] [i2:Ud P t (.slice te)] [i3:Tq P te E]:TO c P ops ⟨d,.slice t y (some z) none none,ty,ps,af,none⟩ L (Pd.rep (En.slice E) (xs.drop a.toNat)) (0≤a∧a≤(xs.length:Int)):=⟨fun hr hc=>t_from (i0.h hc) (i1.h hc) hr i2.h i3.h rfl rfl⟩
instance to63 {α:Type} {E:En α} {xs:List α} {te:TypeId}  [i0:Oc c L y (Pd.rep (En.slice E) xs)] [i1:Oc c L z (Pd.rep (En.int k) a)] [i2:Ud P t (.slice te)] [i3:Tq P te E]:TO c P ops ⟨d,.slice t y none (some z) none,ty,ps,af,none⟩ L (Pd.rep (En.slice E) (xs.take a.toNat)) (0≤a∧a≤(xs.length:Int)):=⟨fun hr hc=>t_upto (i0.h hc) (i1.h hc) hr i2.h i3.h rfl rfl⟩
instance to64 {α:Type} {E:En α} {xs:List α} {te:TypeId} {k2:IntKind} [i0:Oc c L y (Pd.rep (En.slice E) xs)] [i1:Oc c L z (Pd.rep (En.int k2) b)] [i2:Oc c L x (Pd.rep (En.int k) a)] [i3:Ud P t (.slice te)] [i4:Tq P te E]:TO c P ops ⟨d,.slice t y (some z) (some x) none,ty,ps,af,none⟩ L (Pd.rep (En.slice E) ((xs.take a.toNat).drop b.toNat)) (0≤b∧b≤a∧a≤(xs.length:Int)):=⟨fun hr hc=>t_part (i0.h hc) (i1.h hc) (i2.h hc) hr i3.h i4.h rfl rfl⟩
instance to65 [i0:Oc c L x (Pd.rep (En.int .i64) a)] [i1:Oc c L y (Pd.rep (En.int .i64) b)]:TO c P ops ⟨d,.binOp .quo t x y u,ty,ps,af,none⟩ L (Pd.rep (En.int .i64) (a / b)) (0≤a∧0<b):=⟨fun hr hc=>t_quo (i0.h hc) (i1.h hc) hr.1 hr.2 rfl rfl⟩
instance to66 [i0:Oc c L x (Pd.rep (En.int .u8) a)] [i1:Oc c L y (Pd.rep (En.int .u8) b)]:TO c P ops ⟨d,.binOp .quo t x y u,ty,ps,af,none⟩ L (Pd.rep (En.int .u8) (a / b)) (0<b):=⟨fun hr hc=>t_quou (i0.h hc) (i1.h hc) (by decide) hr rfl rfl⟩
instance to67 [i0:Oc c L x (Pd.rep (En.int .u64) a)] [i1:Oc c L y (Pd.rep (En.int .u64) b)]:TO c P ops ⟨d,.binOp .quo t x y u,ty,ps,af,none⟩ L (Pd.rep (En.int .u64) (a / b)) (0<b):=⟨fun hr hc=>t_quou (i0.h hc) (i1.h hc) (by decide) hr rfl rfl⟩
instance to68 [i0:Oc c L x (Pd.rep (En.int .i64) a)] [i1:Oc c L y (Pd.rep (En.int .i64) b)]:TO c P ops ⟨d,.binOp .rem t x y u,ty,ps,af,none⟩ L (Pd.rep (En.int .i64) (a % b)) (0≤a∧0<b):=⟨fun hr hc=>t_rem (i0.h hc) (i1.h hc) hr.1 hr.2 rfl rfl⟩
instance to69 [i0:Oc c L x (Pd.rep (En.int .u8) a)] [i1:Oc c L y (Pd.rep (En.int .u8) b)]:TO c P ops ⟨d,.binOp .rem t x y u,ty,ps,af,none⟩ L (Pd.rep (En.int .u8) (a % b)) (0<b):=⟨fun hr hc=>t_remu (i0.h hc) (i1.h hc) (by decide) hr rfl rfl⟩
instance to70 [i0:Oc c L x (Pd.rep (En.int .u64) a)] [i1:Oc c L y (Pd.rep (En.int .u64) b)]:TO c P ops ⟨d,.binOp .rem t x y u,ty,ps,af,none⟩ L (Pd.rep (En.int .u64) (a % b)) (0<b):=⟨fun hr hc=>t_remu (i0.h hc) (i1.h hc) (by decide) hr rfl rfl⟩
instance to71 {w:Cl} {te:TypeId}  [i0:Oc c L x (Pd.ptr En.cls w)] [i1:Oc c L y (Pd.rep (En.int k) a)] [i2:Ud P t (.array 4 te)] [i3:Us P te 1]:TO c P ops ⟨d,.indexAddr t x y,ty,ps,af,none⟩ L (Pd.ptr (En.int .u64) (w.w a)) (0≤a∧a<4):=⟨fun hr hc=>t_idxc (i0.h hc) (i1.h hc) hr i2.h i3.h rfl rfl⟩
instance to72 {w:Cl} {te:TypeId} {N g:Nat} [i0:Oc c L x (Pd.box En.cls N g w)] [i1:Oc c L y (Pd.rep (En.int k) a)] [i2:Ud P t (.array 4 te)] [i3:Us P te 1]:TO c P ops ⟨d,.indexAddr t x y,ty,ps,af,none⟩ L (Pd.optr (En.int .u64) N (some g) a.toNat (w.w a)) (0≤a∧a<4):=⟨fun hr hc=>t_idxcb (i0.h hc) (i1.h hc) hr i2.h i3.h rfl rfl⟩
instance to73 {w:Cl} {te:TypeId} {N off:Nat} {og:Option Nat} [i0:Oc c L x (Pd.optr En.cls N og off w)] [i1:Oc c L y (Pd.rep (En.int k) a)] [i2:Ud P t (.array 4 te)] [i3:Us P te 1]:TO c P ops ⟨d,.indexAddr t x y,ty,ps,af,none⟩ L (Pd.optr (En.int .u64) N og (off+a.toNat) (w.w a)) (0≤a∧a<4):=⟨fun hr hc=>t_idxco (i0.h hc) (i1.h hc) hr i2.h i3.h rfl rfl⟩
instance toc {f:FuncId} {xs:List Operand} {qs:List Pd} {q:Pd} {ats:Array TypeId} [i:Oz c L xs qs]:TH (Fn P f qs (Rq q)) c P ops ⟨d,.call { callee:=.value (.func f),args:=xs.toArray,argTypes:=ats },ty,ps,af,none⟩ L q:=⟨fun hf hc=>zeu hf (i.h hc) rfl rfl⟩
class Gd (l:List Oper) (j:Nat) (d:outParam Nat):Prop where
 h:(l[j]?).bind (·.dst)=some d
instance gd0 {l:List Oper} {d:Nat} {op:Op} {g:Option (Nat × Bool)}:Gd (⟨some d,op,ty,ps,af,g⟩::l) 0 d:=⟨rfl⟩
instance gd1 {l:List Oper} {o:Oper} {j d:Nat} [h:Gd l j d]:Gd (o::l) (j+1) d:=⟨by simpa using h.h⟩
theorem Gd.arr {l:List Oper} {j d:Nat} (h:Gd l j d):((l.toArray)[j]?).bind (·.dst)=some d:=by simpa using h.h
section
variable {l : List Oper} {j e : Nat} {o : Op} {want v : Bool} {q : Pd} {c0 r r' p : Prop} [g : Gd l j e]
include g
instance tg1 [k:Lx L e (Pd.rep En.bool v)] [i:TO (v=want) P l.toArray ⟨d,o,ty,ps,af,none⟩ L q r] [z:Gi (v=want) r r']:TO True P l.toArray ⟨d,o,ty,ps,af,some (j,want)⟩ L (Pd.when (v=want) q) r':=⟨fun hr _=>t_g1 rfl g.arr k.h fun hc=>i.h (z.h hr hc) hc⟩
instance tg2 [k:Lx L e (Pd.when c0 (Pd.rep En.bool v))] [i:TO (c0∧v=want) P l.toArray ⟨d,o,ty,ps,af,none⟩ L q r] [z:Gi (c0∧v=want) r r']:TO True P l.toArray ⟨d,o,ty,ps,af,some (j,want)⟩ L (Pd.when (c0∧v=want) q) r':=⟨fun hr _=>t_g rfl g.arr k.h fun hc=>i.h (z.h hr hc) hc⟩
instance th1 [k:Lx L e (Pd.rep En.bool v)] [i:TH p (v=want) P l.toArray ⟨d,o,ty,ps,af,none⟩ L q]:TH (v=want→p) True P l.toArray ⟨d,o,ty,ps,af,some (j,want)⟩ L (Pd.when (v=want) q):=⟨fun hr _=>t_g1 rfl g.arr k.h fun hc=>i.h (hr hc) hc⟩
instance th2 [k:Lx L e (Pd.when c0 (Pd.rep En.bool v))] [i:TH p (c0∧v=want) P l.toArray ⟨d,o,ty,ps,af,none⟩ L q]:TH (c0∧v=want→p) True P l.toArray ⟨d,o,ty,ps,af,some (j,want)⟩ L (Pd.when (c0∧v=want) q):=⟨fun hr _=>t_g rfl g.arr k.h fun hc=>i.h (hr hc) hc⟩
end
end
theorem rr {r:Prop} (h:r:=by first | exact trivial | assumption | exact Dis.symm (by assumption) | exact And.intro rr rr | exact fun _=>rr | exact Dis.none | exact Dis.symm Dis.none | decide):r:=h
class Sb (q:Pd):Prop where
 h:∀b,¬ q.own b
instance sb_rep {α:Type} {E:En α} {x:α}:Sb (Pd.rep E x):=⟨fun _ h=>h⟩
instance sb_ptr {α:Type} {E:En α} {x:α}:Sb (Pd.ptr E x):=⟨fun _ h=>h⟩
instance sb_any:Sb Pd.any:=⟨fun _ h=>h⟩
instance sb_nilq {α:Type} {xs:List α}:Sb (Pd.nilq xs):=⟨fun _ h=>h⟩
instance sb_row {α:Type} {E:En α} {N te:Nat} {xs:List α}:Sb (Pd.row E N te none xs):=⟨fun b h=>by cases h⟩
instance sb_when {c:Prop} {q:Pd} [h:Sb q]:Sb (Pd.when c q):=⟨h.h⟩
instance sb_tup {q r:Pd} [h:Sb q] [k:Sb r]:Sb (Pd.tup2 q r):=⟨fun b e=>e.elim (h.h b) (k.h b)⟩
class Ob (q:Pd) (o:outParam (Option Nat)):Prop where
 h:∀b,q.own b→o=some b
section
variable {α : Type} {E : En α} {N te g i : Nat} {og : Option Nat} {x : α} {xs : List α} {v0 : Value}
instance ob_row:Ob (Pd.row E N te og xs) og:=⟨fun _ h=>h⟩
instance ob_box:Ob (Pd.box E N g x) (some g):=⟨fun _ h=>congrArg some (Eq.symm h)⟩
instance ob_optr:Ob (Pd.optr E N og i x) og:=⟨fun _ h=>h⟩
instance ob_map {κ ν:Type} [DecidableEq κ] {K:En κ} {kv:κ→Value} {F:En ν} {ys:List (κ × ν)}:Ob (Pd.map K kv F N og ys) og:=⟨fun _ h=>h⟩
end
class Ka (o:Option Nat) (L:Lst) (L':outParam Lst) (r:outParam Prop):Prop where
 h:r→Kp (fun b=>o=some b) L L'
section
variable {o o' : Option Nat} {L L' : Lst} {r r' : Prop} {t : Nat} {q : Pd}
instance ka0:Ka o [] [] True:=⟨fun _=>.a0⟩
instance (priority:=1100) ka1 [s:Sb q] [k:Ka o L L' r]:Ka o ((t,q)::L) ((t,q)::L') r:=⟨fun hr=>.ak (fun b hb=>(s.h b hb).elim) (k.h hr)⟩
instance (priority:=1050) ka2 [s:Ob q o] [k:Ka o L L' r]:Ka o ((t,q)::L) ((t,Pd.any)::L') r:=⟨fun hr=>.ad (k.h hr)⟩
instance ka3 [s:Ob q o'] [k:Ka o L L' r] [z:Cj (Dis o' o) r r']:Ka o ((t,q)::L) ((t,q)::L') r':=⟨fun hr=>.ak (fun b hb e=>(z.h hr).1 b (s.h b hb) e) (k.h (z.h hr).2)⟩
instance (priority:=low) ka4 [k:Ka o L L' r]:Ka o ((t,q)::L) ((t,Pd.any)::L') r:=⟨fun hr=>.ad (k.h hr)⟩
theorem ka [i:Ka o L L' r] (hr:r:=by exact rr):Kp (fun b=>o=some b) L L':=i.h hr
class Kd (o:Option Nat) (L:Lst) (L':outParam Lst):Prop where
 h:Kp (fun _=>False) L L'
instance kd0:Kd o [] []:=⟨.a0⟩
instance (priority:=1050) kd1 [s:Ob q o] [k:Kd o L L']:Kd o ((t,q)::L) ((t,Pd.any)::L'):=⟨.ad k.h⟩
instance kd2 [k:Kd o L L']:Kd o ((t,q)::L) ((t,q)::L'):=⟨.ak (fun _ _ h=>h) k.h⟩
theorem Has.dr {M:Nat→Prop} {n:Nat} {s0:St} {a:Act} {s:St} (h:Has M n s0 a s L) (o:Option Nat) [k:Kd o L L']:Has M n s0 a s L':=h.keep k.h
class Ks (o:Option Nat) (q q':Pd) (L:Lst) (L':outParam Lst) (r:outParam Prop):Prop where
 h:r→Kw (fun b=>o=some b) L q q' L'
variable {p p' : Pd}
instance ks0:Ks o p p' [] [] True:=⟨fun _=>.a0⟩
instance (priority:=1200) ks5 [k:Ks o p p' L L' r]:Ks o p p' ((t,p)::L) ((t,p')::L') r:=⟨fun hr=>.aw (k.h hr)⟩
instance (priority:=1100) ks1 [s:Sb q] [k:Ks o p p' L L' r]:Ks o p p' ((t,q)::L) ((t,q)::L') r:=⟨fun hr=>.ak (fun b hb=>(s.h b hb).elim) (k.h hr)⟩
instance (priority:=1050) ks2 [s:Ob q o] [k:Ks o p p' L L' r]:Ks o p p' ((t,q)::L) ((t,Pd.any)::L') r:=⟨fun hr=>.ad (k.h hr)⟩
instance ks3 [s:Ob q o'] [k:Ks o p p' L L' r] [z:Cj (Dis o' o) r r']:Ks o p p' ((t,q)::L) ((t,q)::L') r':=⟨fun hr=>.ak (fun b hb e=>(z.h hr).1 b (s.h b hb) e) (k.h (z.h hr).2)⟩
instance (priority:=low) ks4 [k:Ks o p p' L L' r]:Ks o p p' ((t,q)::L) ((t,Pd.any)::L') r:=⟨fun hr=>.ad (k.h hr)⟩
theorem kw [i:Ks o p p' L L' r] (hr:r:=by exact rr):Kw (fun b=>o=some b) L p p' L':=i.h hr
end
section
variable {P : Program} {ops : Array Oper} {L L' : Lst} {Q : Exit → Act → World → Prop} {rest : List Oper} {M : Nat → Prop} {n : Nat} {s0 : St} {a : Act} {s : St}
theorem Has.kk (h:Has M n s0 a s L) (hk:Kp (fun _=>False) L L':=by repeat (first | refine .cons rfl (fun _ _ h=>h) ?_ | exact .nil)):Has M n s0 a s L':=h.keep hk
inductive TSq (P:Program) (ops:Array Oper) (n:Nat):List Oper→List Oper→Lst→Lst→Prop
 | nil {l:List Oper} {L:Lst}:TSq P ops n l l L L
 | cons {o:Oper} {l l':List Oper} {L L':Lst} {q:Pd} {d:Nat} (h:T P ops o L q) (hd:o.dst=some d) (hn:Nat.blt d n=true) (h2:TSq P ops n l l' ((d,q)::L) L'):TSq P ops n (o::l) l' L L'
theorem TSq.go {l l':List Oper} (h:TSq P ops n l l' L L'):∀{a s},Has M n s0 a s L→(∀a s,Has M n s0 a s L'→wpList P ops Q l' a s.w)→wpList P ops Q l a s.w:=by
 induction h with
 | nil=>intro a s h k;exact k a s h
 | cons h hd hn _ ih=>intro a s hL k;exact st _ h hd hn hL fun a s _ hL=>ih hL k
class TL (P:Program) (ops:Array Oper) (n m:Nat) (p:Prop) (l:List Oper) (L:Lst) (l':outParam (List Oper)) (L':outParam Lst) (r:outParam Prop):Prop where
 h:p→r→TSq P ops n l l' L L'
section
variable {o : Op} {l l' : List Oper} {q : Pd} {d m : Nat} {r1 r2 r p p1 : Prop} {ty : TypeId} {ps : String} {af : Array Edge} {g : Option (Nat × Bool)}
instance tl0:TL P ops n 0 True l L l L True:=⟨fun _ _=>.nil⟩
instance tl1 [i:TO True P ops ⟨some d,o,ty,ps,af,g⟩ L q r1] [e:Ev (Nat.ble (d+1) n) true] [k:TL P ops n m p l ((d,q)::L) l' L' r2] [z:Cj r1 r2 r]:TL P ops n (m+1) p (⟨some d,o,ty,ps,af,g⟩::l) L l' L' r:=⟨fun hp hr=>.cons (i.h (z.h hr).1 trivial) rfl e.h (k.h hp (z.h hr).2)⟩
instance tl2 [i:TH p1 True P ops ⟨some d,o,ty,ps,af,g⟩ L q] [e:Ev (Nat.ble (d+1) n) true] [k:TL P ops n m p l ((d,q)::L) l' L' r]:TL P ops n (m+1) (p1∧p) (⟨some d,o,ty,ps,af,g⟩::l) L l' L' r:=⟨fun hp hr=>.cons (i.h hp.1 trivial) rfl e.h (k.h hp.2 hr)⟩
instance (priority:=high) tl3 {α:Type} {E:En α} {x y:α} [i:TO True P ops ⟨some d,o,ty,ps,af,g⟩ L (Pd.rep E y) r1] [e:Ev (Nat.ble (d+1) n) true] [k:TL P ops n m p l ((d,Pd.rep E x)::L) l' L' r2] [z:Cj r1 r2 r]:TL P ops n (m+1) (x=y∧p) (⟨some d,o,ty,ps,af,g⟩::l) L l' L' r:=⟨fun hp hr=>.cons (by rw [hp.1];exact i.h (z.h hr).1 trivial) rfl e.h (k.h hp.2 (z.h hr).2)⟩
instance (priority:=high) tl4 {α:Type} {E:En α} {x y:α} {c:Prop} [i:TO True P ops ⟨some d,o,ty,ps,af,g⟩ L (Pd.when c (Pd.rep E y)) r1] [e:Ev (Nat.ble (d+1) n) true] [k:TL P ops n m p l ((d,Pd.when c (Pd.rep E x))::L) l' L' r2] [z:Cj r1 r2 r]:TL P ops n (m+1) (x=y∧p) (⟨some d,o,ty,ps,af,g⟩::l) L l' L' r:=⟨fun hp hr=>.cons (by rw [hp.1];exact i.h (z.h hr).1 trivial) rfl e.h (k.h hp.2 (z.h hr).2)⟩
end
theorem sl {l l':List Oper} {r p:Prop} (m:Nat) (hp:p) (hL:Has M n s0 a s L) (k:∀a s,Has M n s0 a s L'→wpList P ops Q l' a s.w) [i:TL P ops n m p l L l' L' r] (hr:r:=by exact rr):wpList P ops Q l a s.w:=(i.h hp hr).go hL k
theorem sA {l l':List Oper} {r:Prop} (m:Nat) (hL:Has M n s0 a s L) (k:∀a s, Has M n s0 a s L'→wpList P ops Q l' a s.w) [i:TL P ops n m True l L l' L' r] (hr:r := by exact rr):wpList P ops Q l a s.w := sl m trivial hL k hr
theorem sv {o:Oper} {q:Pd} {d:Nat} (h:T P ops o L q) (hL:Has M n s0 a s L) (k:∀a' s',Has M n s0 a' s' ((d,q)::L)→wpList P ops Q rest a' s'.w) (hd:o.dst=some d:=by rfl) (hn:Nat.blt d n=true:=by rfl):wpList P ops Q (o::rest) a s.w:=st d h hd hn hL fun a s _ h=>k a s h
theorem sno {α:Type} (E:En α) (te:Nat) {d:Nat} {o:Oper} (hL:Has M n s0 a s L) (k:∀a' s',Has M n s0 a' s' ((d,Pd.row E s0.w.heap.size te none ([]:List α))::L)→wpList P ops Q rest a' s'.w) (ho:o.op = .move (.const (.slice none 0 0))∨o.op = .assign (.const (.slice none 0 0)):=by first | exact .inr rfl | exact .inl rfl) (hg:o.guard=none:=by rfl) (hd:o.dst=some d:=by rfl) (hn:Nat.blt d n=true:=by rfl):wpList P ops Q (o::rest) a s.w:=sv (ho.elim (fun h=>zn o_nil h hg) fun h=>zw o_nil h hg) hL k hd hn
theorem pp {a b:Prop} (h:a) (k:b):a∧b:=⟨h,k⟩
theorem p1 {a:Prop} (h:a):a∧True := ⟨h, trivial⟩
variable {b : Code} {id : Nat} {l : List Oper}
theorem rs (h:wpList P l.toArray (Exit.then (b.wp P Q) Q) l a s.w):(Code.seq (Code.region id l.toArray false) b).wp P Q a s.w:=wp_seq (rg h)
theorem es (h:b.wp P Q a s.w):wpList P ops (Exit.then (b.wp P Q) Q) [] a s.w:=h
theorem ra {r p:Prop} (m:Nat) (hp:p) (hL:Has M n s0 a s L) (k:∀a s,Has M n s0 a s L'→b.wp P Q a s.w) [i:TL P l.toArray n m p l L [] L' r] (hr:r:=by exact rr):(Code.seq (Code.region id l.toArray false) b).wp P Q a s.w:=rs ((i.h hp hr).go hL fun a s h=>es (k a s h))
theorem rA (m:Nat) (hL:Has M n s0 a s L) (k:∀a s, Has M n s0 a s L'→b.wp P Q a s.w) {r:Prop} [i:TL P l.toArray n m True l L [] L' r] (hr:r := by exact rr):(Code.seq (Code.region id l.toArray false) b).wp P Q a s.w := ra m trivial hL k hr
theorem sB {α:Type} {E:En α} {x0 x1:α} {g:Nat} {y:Operand} {t:TypeId} {o:Oper} (c:Nat) (hL:Has M n s0 a s L) (k:∀s', Has M n s0 a s' ((c, Pd.box E s0.w.heap.size g x1)::L')→wpList P ops Q rest a s'.w) (ho:o.op = .store t (.tmp c) y := by rfl) (hc:lk L c=some (Pd.box E s0.w.heap.size g x0) := by rfl) [hy:Oc True L y (Pd.rep E x1)] [ht:Tq P t E] (hg:o.guard=none := by rfl) (hd:o.dst=none := by rfl) (hk:Kp (fun b => some g=some b) L L' := by exact ka):wpList P ops Q (o::rest) a s.w := zma c hL hc (hy.h trivial) ht.h ho hg hd hk k
@[reducible] def bnd (e:Edge):Bool:=match e.ground with
 | .textOnly _=>false
 | .gcOnly _=>false
 | _=>true
theorem bnd_eq (e:Edge):Region.binds .any e=bnd e:=by
 unfold Region.binds bnd;cases e.ground <;> rfl
@[reducible] def nthR:Lst→Nat→Option (Nat × Pd)
 | [],_=>none
 | x::_,0=>some x
 | _::r,k+1=>nthR r k
@[reducible] def depA (i:Nat) (A L:Lst):List Edge→Lst
 | []=>L
 | e::r=>match bnd e,nthR A (Nat.sub (Nat.sub i 1) e.on) with
  | true,some x=>x::depA i A L r
  | _,_=>depA i A L r
inductive AA (P:Program) (ops:Array Oper) (L:Lst):Nat→Lst→List Oper→List Pd→Lst→Prop
 | nil {i:Nat} {A:Lst} {l:List Oper}:AA P ops L i A l [] A
 | cons {i:Nat} {A A':Lst} {o:Oper} {l:List Oper} {q:Pd} {qs:List Pd} {d:Nat} (h:T P ops o (depA i A L o.after.toList) q) (hd:o.dst=some d) (h2:AA P ops L (i+1) ((d,q)::A) l qs A'):AA P ops L i A (o::l) (q::qs) A'
theorem nthR_newL {ops:Array Oper} {qs:List Pd} {L:Lst}:∀{i:Nat},(∀j,j<i→∃d q,(ops[j]?).bind (·.dst)=some d∧qs[j]?=some q)→∀j d q,j<i→(ops[j]?).bind (·.dst)=some d→qs[j]?=some q→nthR (zkf ops qs i L) (Nat.sub (Nat.sub i 1) j)=some (d,q)
 | 0,_,j,d,q,hj,_,_=>by omega
 | i+1,hall,j,d,q,hj,hd,hq=>by
  obtain ⟨d',q',h1,h2⟩:=hall i (by omega);unfold zkf;rw [h1,h2]
  by_cases hji:j=i
  ·subst hji;rw [h1] at hd;rw [h2] at hq;cases hd;cases hq;have e:Nat.sub (Nat.sub (j+1) 1) j=0:=by show j+1-1-j=0;omega
   rw [e]
  ·have e:Nat.sub (Nat.sub (i+1) 1) j=Nat.sub (Nat.sub i 1) j+1:=by show i+1-1-j=i-1-j+1;omega
   rw [e];exact nthR_newL (fun j hj=>hall j (by omega)) j d q (by omega) hd hq
theorem depA_eq {ops:Array Oper} {qs:List Pd} {L:Lst} {i:Nat} (hall:∀j,j<i→∃d q,(ops[j]?).bind (·.dst)=some d∧qs[j]?=some q):∀es:List Edge,(∀e∈es,Region.binds .any e=true→e.on<i)→depA i (zkf ops qs i L) L es=zh2 ops qs es L
 | [],_=>rfl
 | e::r,h=>by
  have ih:=depA_eq (L:=L) hall r fun e he=>h e (by simp [he]);unfold depA zh2;cases hb:Region.binds .any e
  ·rw [bnd_eq] at hb;rw [hb];simp only;exact ih
  ·have hlt:=h e (by simp) hb;obtain ⟨d,q,h1,h2⟩:=hall e.on hlt;rw [bnd_eq] at hb;rw [hb,nthR_newL hall e.on d q hlt h1 h2,h1,h2];simp only;rw [ih]
theorem AA.all {l0:List Oper} {n m:Nat} (hok:zdy l0.toArray m n (L.map (·.1)) []=true):∀{l:List Oper} {i:Nat} {A A':Lst} {qs:List Pd},AA P l0.toArray L i A l qs A'→∀(pre:List Oper) (qp:List Pd),l0=pre++l→pre.length=i→qp.length=i→(∀j,j<i→∃d q,(l0[j]?).bind (·.dst)=some d∧qp[j]?=some q)→A=zkf l0.toArray (qp++qs) i L →
  zbe P l0.toArray (qp++qs) L l qs∧A'=zkf l0.toArray (qp++qs) (i+qs.length) L:=by
 intro l i A A' qs h
 induction h with
 | nil=>intro pre qp h1 h2 h3 h4 h5;exact ⟨zbe.nil,by simpa using h5⟩
 | cons h hd h2 ih=>
  rename_i i A A' o l q qs d
  intro pre qp h1 h2 h3 h4 h5;have e1:l0[i]?=some o:=by rw [h1,List.getElem?_append_right (by omega),show i-pre.length=0 by omega];rfl
  have hall:∀j,j<i→∃d q',((l0.toArray)[j]?).bind (·.dst)=some d∧(qp++q::qs)[j]?=some q':=fun j hj=>by
   obtain ⟨d,q',k1,k2⟩:=h4 j hj;exact ⟨d,q',by simpa using k1,by rw [List.getElem?_append_left (by omega)];exact k2⟩
  have hdep:∀e∈o.after.toList,Region.binds .any e=true→e.on<i:=by
   unfold zdy at hok;rw [Bool.and_eq_true,List.all_eq_true] at hok;have hil:=(List.getElem?_eq_some_iff.1 e1).1;have:=List.all_eq_true.1 hok.2 i (by simpa using hil);rw [show (l0.toArray)[i]?=some o by simpa using e1] at this;simp only [Bool.and_eq_true,List.all_eq_true] at this;intro e he hb;have:=this.1 e he;simp only [hb,Bool.not_true,Bool.false_or] at this;exact Nat.le_of_ble_eq_true this
  have e2:=ih (pre++[o]) (qp++[q]) (by rw [h1,List.append_assoc];rfl) (by simp [h2]) (by simp [h3]) (fun j hj=>by
   by_cases hji:j=i
   ·subst hji;exact ⟨d,q,by rw [e1];exact hd,by rw [List.getElem?_append_right (by omega),show j-qp.length=0 by omega];rfl⟩
   ·obtain ⟨d,q',k1,k2⟩:=h4 j (by omega);exact ⟨d,q',k1,by rw [List.getElem?_append_left (by omega)];exact k2⟩) (by
   rw [List.append_assoc];show (d,q)::A=zkf l0.toArray (qp++q::qs) (i+1) L;unfold zkf;have k1:((l0.toArray)[i]?).bind (·.dst)=some d:=by rw [show (l0.toArray)[i]?=some o by simpa using e1];exact hd
   have k2:(qp++q::qs)[i]?=some q:=by rw [List.getElem?_append_right (by omega),show i-qp.length=0 by omega];rfl
   rw [k1,k2,h5])
  rw [List.append_assoc] at e2;refine ⟨zbe.cons ?_ e2.1, ?_⟩
  ·rw [← depA_eq hall _ hdep,← h5];exact h
  ·rw [e2.2];show zkf l0.toArray (qp++q::qs) (i+1+qs.length) L=zkf l0.toArray (qp++q::qs) (i+(q::qs).length) L;rw [List.length_cons];congr 1;omega
class TA (P:Program) (ops:Array Oper) (L:Lst) (i m:Nat) (p:Prop) (A:Lst) (l:List Oper) (qs:outParam (List Pd)) (A':outParam Lst) (r:outParam Prop):Prop where
 h:p→r→AA P ops L i A l qs A'
section
variable {o : Op} {l : List Oper} {q : Pd} {qs : List Pd} {A A' : Lst} {d i m : Nat} {r1 r2 r p p1 : Prop} {ty : TypeId} {ps : String} {af : List Edge} {g : Option (Nat × Bool)}
instance ta0:TA P ops L i 0 True A l [] A True:=⟨fun _ _=>.nil⟩
instance ta1 [j:TO True P ops ⟨some d,o,ty,ps,af.toArray,g⟩ (depA i A L af) q r1] [k:TA P ops L (i+1) m p ((d,q)::A) l qs A' r2] [z:Cj r1 r2 r]:TA P ops L i (m+1) p A (⟨some d,o,ty,ps,af.toArray,g⟩::l) (q::qs) A' r:=⟨fun hp hr=>.cons (j.h (z.h hr).1 trivial) rfl (k.h hp (z.h hr).2)⟩
instance ta2 [j:TH p1 True P ops ⟨some d,o,ty,ps,af.toArray,g⟩ (depA i A L af) q] [k:TA P ops L (i+1) m p ((d,q)::A) l qs A' r]:TA P ops L i (m+1) (p1∧p) A (⟨some d,o,ty,ps,af.toArray,g⟩::l) (q::qs) A' r:=⟨fun hp hr=>.cons (j.h hp.1 trivial) rfl (k.h hp.2 hr)⟩
instance (priority:=high) ta3 {α:Type} {E:En α} {x y:α} [j:TO True P ops ⟨some d,o,ty,ps,af.toArray,g⟩ (depA i A L af) (Pd.rep E y) r1] [k:TA P ops L (i+1) m p ((d,Pd.rep E x)::A) l qs A' r2] [z:Cj r1 r2 r]:TA P ops L i (m+1) (x=y∧p) A (⟨some d,o,ty,ps,af.toArray,g⟩::l) (Pd.rep E x::qs) A' r:=⟨fun hp hr=>.cons (by rw [hp.1];exact j.h (z.h hr).1 trivial) rfl (k.h hp.2 (z.h hr).2)⟩
instance (priority:=high) ta4 {α:Type} {E:En α} {x y:α} {c:Prop} [j:TO True P ops ⟨some d,o,ty,ps,af.toArray,g⟩ (depA i A L af) (Pd.when c (Pd.rep E y)) r1] [k:TA P ops L (i+1) m p ((d,Pd.when c (Pd.rep E x))::A) l qs A' r2] [z:Cj r1 r2 r]:TA P ops L i (m+1) (x=y∧p) A (⟨some d,o,ty,ps,af.toArray,g⟩::l) (Pd.when c (Pd.rep E x)::qs) A' r:=⟨fun hp hr=>.cons (by rw [hp.1];exact j.h (z.h hr).1 trivial) rfl (k.h hp.2 (z.h hr).2)⟩
end
class Dp (m:Nat) (l:List Oper) (l':outParam (List Oper)):Prop where
 h:l.drop m=l'
instance dp0 {l:List Oper}:Dp 0 l l:=⟨rfl⟩
instance dp1 {m:Nat} {o:Oper} {l l':List Oper} [h:Dp m l l']:Dp (m+1) (o::l) l':=⟨by rw [List.drop_succ_cons];exact h.h⟩
theorem dp {m:Nat} {l l':List Oper} [i:Dp m l l'] (h:wpList P ops Q l' a s.w):wpList P ops Q (l.drop m) a s.w:=i.h ▸ h
theorem rdx {l':List Oper} {r p:Prop} {qs:List Pd} (m:Nat) (hp:p) (hL:Has M n s0 a s L) (hB:∀a' s',Has M n s0 a' s' L'→wpList P l.toArray Q l' a' s'.w) [i:TA P l.toArray L 0 m p L l qs L' r] [j:Dp m l l'] (hr:r:=by exact rr)
  (hf:P.follows .mixedOrders=true:=by exact zdq) (hok:zdy l.toArray m n (L.map (·.1)) []=true:=by kernel_rfl) (hq:Nat.beq qs.length m=true:=by rfl) (hm:Nat.ble m l.length=true:=by rfl):(Code.region id l.toArray true).wp P Q a s.w:=by
 have h:=AA.all hok (i.h hp hr) [] [] rfl rfl rfl (fun j hj=>by omega) rfl;refine rda hf m qs hL hok hq hm h.1 fun a s _ hL=>dp (hB a s ?_);have e:=h.2;rw [Nat.zero_add,Nat.eq_of_beq_eq_true hq] at e;rw [e];exact hL
theorem cn {t:Nat} {b:Bool} {x y:Code} {A B:Prop} (hL:Has M n s0 a s L) (h:(b=true→A)∧(b=false→B)) (h1:A→x.wp P Q a s.w) (h2:B→y.wp P Q a s.w) (hl:lk L t=some (Pd.rep En.bool b):=by rfl):(Code.cond (.tmp t) x y).wp P Q a s.w:=cnd hL hl (fun e=>h1 (h.1 e)) (fun e=>h2 (h.2 e))
section
variable {α : Type} {E : En α} {te g : Nat} {og : Option Nat} {xs : List α} {x : α}
theorem fzl (t:Nat) (hL:Has M n s0 a s L) (k:∀s',Has M n s0 a s' ((t,Pd.rep (En.slice E) xs)::L')→wpList P ops Q l a s'.w) (hl:lk L t=some (Pd.row E s0.w.heap.size te og xs):=by rfl) (hk:Kp (fun b=>og=some b) L L':=by exact ka):wpList P ops Q l a s.w:=by
 obtain ⟨s',hw,h⟩:=hL.freeze t hl hk;rw [← hw];exact k s' h
theorem fzc (t:Nat) (hL:Has M n s0 a s L) (k:∀s',Has M n s0 a s' ((t,Pd.rep (En.slice E) xs)::L')→b.wp P Q a s'.w) (hl:lk L t=some (Pd.row E s0.w.heap.size te og xs):=by rfl) (hk:Kp (fun b=>og=some b) L L':=by exact ka):b.wp P Q a s.w:=by
 obtain ⟨s',hw,h⟩:=hL.freeze t hl hk;rw [← hw];exact k s' h
theorem fbc (t:Nat) (hL:Has M n s0 a s L) (k:∀s',Has M n s0 a s' ((t,Pd.ptr E x)::L')→b.wp P Q a s'.w) (hl:lk L t=some (Pd.box E s0.w.heap.size g x):=by rfl) (hk:Kp (fun b=>some g=some b) L L':=by exact ka):b.wp P Q a s.w:=by
 obtain ⟨s',hw,h⟩:=hL.freezeb t hl hk;rw [← hw];exact k s' h
end
theorem lpn {c:Code} (I:Nat→Act→St→Prop) (k0:Nat) (h0:I k0 a s)
  (round:∀k a s,I (k+1) a s→∀K:Act→World→Prop,(∀a' s',I k a' s'→K a' s'.w)→c.wp P (Exit.then K Q) a s.w) (hz:∀a s,I 0 a s→False:=by intro a s h;repeat (obtain ⟨_,h⟩:=h)):(Code.loop c).wp P Q a s.w:=
 lpg I k0 h0 fun k a s h K hK=>match k,h with
  | 0,h=>(hz a s h).elim
  | k+1,h=>round k a s h K fun a' s' h'=>hK k a' s' (Nat.lt_succ_self k) h'
end
end Go.Proofs.YtahgmdbioafmbaaGreatDoor.V
namespace Go.Proofs.YtahgmdbioafmbaaGreatDoor.V
open Go
set_option linter.unusedVariables false
set_option maxRecDepth 100000
noncomputable abbrev En.SItem:En SItem:=(En.cat (En.int .i64) (En.cat (En.int .i64) (En.cat (En.int .i64) (En.int .i64))))
noncomputable abbrev EnF43:En ((List (List SItem)) × Str→Prop):=En.fun Tryz.prog (fun q=>[Pd.rep (En.slice (En.slice En.SItem)) q.1]) (fun q=>Rq (Pd.rep En.str q.2))
noncomputable abbrev EnF88:En ((List SItem) × Bool→Prop):=En.fun Tryz.prog (fun q=>[Pd.rep (En.slice En.SItem) q.1]) (fun q=>Rq (Pd.rep En.bool q.2))
noncomputable abbrev En.SOn_scantling_api_State_search:En SOn_scantling_api_State_search:=(En.cat (En.int .u8) (En.slice (En.slice En.SItem)))
noncomputable abbrev EnF109:En ((List (List SItem)) × (List SOn_scantling_api_State_search)→Prop):=En.fun Tryz.prog (fun q=>[Pd.rep (En.slice (En.slice En.SItem)) q.1]) (fun q=>Rq (Pd.rep (En.slice En.SOn_scantling_api_State_search) q.2))
noncomputable abbrev EnF110:En ((List (List SItem)) × Bool→Prop):=En.fun Tryz.prog (fun q=>[Pd.rep (En.slice (En.slice En.SItem)) q.1]) (fun q=>Rq (Pd.rep En.bool q.2))
noncomputable abbrev EnF209:En (Cl × Int→Prop):=En.fun Tryz.prog (fun q=>[Pd.rep En.cls q.1]) (fun q=>Rq (Pd.rep (En.int .i64) q.2))
noncomputable abbrev EnF211:En (Cl × Cl × Int→Prop):=En.fun Tryz.prog (fun q=>[Pd.rep En.cls q.1,Pd.rep En.cls q.2.1]) (fun q=>Rq (Pd.rep (En.int .i64) q.2.2))
noncomputable abbrev En.SNode:En SNode:=(En.cat (En.int .i64) (En.cat (En.int .i64) (En.cat (En.int .i64) (En.cat (En.int .i64) (En.cat (En.int .i64) (En.cat En.cls En.str))))))
noncomputable abbrev En.SDesc:En SDesc:=En.solo (En.slice En.SNode)
noncomputable abbrev En.SVerdict:En SVerdict:=(En.cat (En.int .i64) (En.cat (En.slice (En.int .u8)) (En.cat (En.slice (En.int .u8)) (En.cat (En.int .i64) (En.cat (En.int .i64) (En.cat (En.int .i64) (En.int .i64)))))))
noncomputable abbrev En.SBranch:En SBranch:=(En.cat (En.slice En.SItem) (En.int .i64))
noncomputable abbrev En.Sof_word:En Sof_word:=En.solo En.SDesc
noncomputable abbrev En.SFound_scantling_api_State_search:En SFound_scantling_api_State_search:=(En.cat En.SVerdict (En.slice (En.slice En.SItem)))
noncomputable abbrev En.SSpace_scantling_api_State_search:En SSpace_scantling_api_State_search:=(En.cat (En.slice (En.slice En.SItem)) (En.cat EnF43 (En.cat EnF109 EnF110)))
noncomputable abbrev En.Smade_scantling_api_State_search:En Smade_scantling_api_State_search:=(En.cat (En.slice (En.slice En.SItem)) (En.cat (En.int .i64) (En.int .u8)))
noncomputable abbrev En.Sstep_next:En Sstep_next:=(En.cat En.SNode (En.cat En.SItem (En.int .u8)))
theorem ty3:Ty Tryz.prog 3 (En.int .i64):=⟨⟨_,_,rfl,rfl,rfl,rfl,by decide⟩,_,rfl,rfl⟩
theorem ty4:Ty Tryz.prog 4 En.bool:=⟨⟨_,_,rfl,rfl,rfl,rfl,by decide⟩,_,rfl,rfl⟩
theorem ty5:Ty Tryz.prog 5 (En.int .u8):=⟨⟨_,_,rfl,rfl,rfl,rfl,by decide⟩,_,rfl,rfl⟩
theorem ty9:Ty Tryz.prog 9 En.str:=⟨⟨_,_,rfl,rfl,rfl,rfl,by decide⟩,_,rfl,rfl⟩
theorem ty22:Ty Tryz.prog 22 (En.slice En.SNode):=⟨⟨_,_,rfl,rfl,rfl,rfl,by decide⟩,_,rfl,rfl⟩
theorem ty24:Ty Tryz.prog 24 En.SDesc:=⟨⟨_,_,rfl,rfl,rfl,rfl,by decide⟩,_,rfl,rfl⟩
theorem ty25:Ty Tryz.prog 25 (En.slice (En.slice En.SItem)):=⟨⟨_,_,rfl,rfl,rfl,rfl,by decide⟩,_,rfl,rfl⟩
theorem ty26:Ty Tryz.prog 26 (En.slice (En.int .u8)):=⟨⟨_,_,rfl,rfl,rfl,rfl,by decide⟩,_,rfl,rfl⟩
theorem ty43:Ty Tryz.prog 43 EnF43:=⟨⟨_,_,rfl,rfl,rfl,rfl,by decide⟩,_,rfl,rfl⟩
theorem zqq:Ty Tryz.prog 47 (En.slice En.SItem):=⟨⟨_,_,rfl,rfl,rfl,rfl,by decide⟩,_,rfl,rfl⟩
theorem ty49:Ty Tryz.prog 49 (En.int .u64):=⟨⟨_,_,rfl,rfl,rfl,rfl,by decide⟩,_,rfl,rfl⟩
theorem zgi:Ty Tryz.prog 51 En.cls:=⟨⟨_,_,rfl,rfl,rfl,rfl,by decide⟩,_,rfl,rfl⟩
theorem ty58:Ty Tryz.prog 58 En.SVerdict:=⟨⟨_,_,rfl,rfl,rfl,rfl,by decide⟩,_,rfl,rfl⟩
theorem ty68:Ty Tryz.prog 68 En.SNode:=⟨⟨_,_,rfl,rfl,rfl,rfl,by decide⟩,_,rfl,rfl⟩
theorem zlm:Ty Tryz.prog 77 En.SItem:=⟨⟨_,_,rfl,rfl,rfl,rfl,by decide⟩,_,rfl,rfl⟩
theorem ty82:Ty Tryz.prog 82 En.SBranch:=⟨⟨_,_,rfl,rfl,rfl,rfl,by decide⟩,_,rfl,rfl⟩
theorem ty106:Ty Tryz.prog 106 En.Sof_word:=⟨⟨_,_,rfl,rfl,rfl,rfl,by decide⟩,_,rfl,rfl⟩
theorem ty108:Ty Tryz.prog 108 En.SFound_scantling_api_State_search:=⟨⟨_,_,rfl,rfl,rfl,rfl,by decide⟩,_,rfl,rfl⟩
theorem ty109:Ty Tryz.prog 109 EnF109:=⟨⟨_,_,rfl,rfl,rfl,rfl,by decide⟩,_,rfl,rfl⟩
theorem ty110:Ty Tryz.prog 110 EnF110:=⟨⟨_,_,rfl,rfl,rfl,rfl,by decide⟩,_,rfl,rfl⟩
theorem ty150:Ty Tryz.prog 150 En.SOn_scantling_api_State_search:=⟨⟨_,_,rfl,rfl,rfl,rfl,by decide⟩,_,rfl,rfl⟩
theorem ty152:Ty Tryz.prog 152 En.Smade_scantling_api_State_search:=⟨⟨_,_,rfl,rfl,rfl,rfl,by decide⟩,_,rfl,rfl⟩
theorem ty209:Ty Tryz.prog 209 EnF209:=⟨⟨_,_,rfl,rfl,rfl,rfl,by decide⟩,_,rfl,rfl⟩
theorem tyz3:TyZ Tryz.prog 3 (En.int .i64) (0:Int):=⟨_,_,[.int .i64 0],rfl,rfl,by rfl,fun _ _=>⟨rfl,by decide⟩⟩
theorem tyz4:TyZ Tryz.prog 4 En.bool (false:Bool):=⟨_,_,[.bool false],rfl,rfl,by rfl,fun _ _=>rfl⟩
theorem zqp:TyZ Tryz.prog 24 En.SDesc ([]:SDesc):=⟨_,_,[.slice none 0 0],rfl,rfl,by rfl,fun _ _=>⟨_,rfl,zew _ _ _⟩⟩
theorem zkl:TyZ Tryz.prog 51 En.cls ((0#256):Cl):=⟨_,_,zbu 0#256,rfl,rfl,by rfl,fun _ _=>rfl⟩
theorem tyz58:TyZ Tryz.prog 58 En.SVerdict ((0,[],[],0,0,0,0):SVerdict):=⟨_,_,([.int .i64 0]++([.slice none 0 0]++([.slice none 0 0]++([.int .i64 0]++([.int .i64 0]++([.int .i64 0]++[.int .i64 0])))))),rfl,rfl,by rfl,fun _ _=>⟨_,_,rfl,⟨rfl,by decide⟩,⟨_,_,rfl,⟨_,rfl,zew _ _ _⟩,⟨_,_,rfl,⟨_,rfl,zew _ _ _⟩,⟨_,_,rfl,⟨rfl,by decide⟩,⟨_,_,rfl,⟨rfl,by decide⟩,⟨_,_,rfl,⟨rfl,by decide⟩,⟨rfl,by decide⟩⟩⟩⟩⟩⟩⟩⟩
theorem zkk:TyZ Tryz.prog 68 En.SNode ((0,0,0,0,0,(0#256),([]:Str)):SNode):=⟨_,_,([.int .i64 0]++([.int .i64 0]++([.int .i64 0]++([.int .i64 0]++([.int .i64 0]++(zbu 0#256++[.string ⟨#[]⟩])))))),rfl,rfl,by rfl,fun _ _=>⟨_,_,rfl,⟨rfl,by decide⟩,⟨_,_,rfl,⟨rfl,by decide⟩,⟨_,_,rfl,⟨rfl,by decide⟩,⟨_,_,rfl,⟨rfl,by decide⟩,⟨_,_,rfl,⟨rfl,by decide⟩,⟨_,_,rfl,rfl,⟨rfl,by decide⟩⟩⟩⟩⟩⟩⟩⟩
theorem zio:TyZ Tryz.prog 77 En.SItem ((0,0,0,0):SItem):=⟨_,_,([.int .i64 0]++([.int .i64 0]++([.int .i64 0]++[.int .i64 0]))),rfl,rfl,by rfl,fun _ _=>⟨_,_,rfl,⟨rfl,by decide⟩,⟨_,_,rfl,⟨rfl,by decide⟩,⟨_,_,rfl,⟨rfl,by decide⟩,⟨rfl,by decide⟩⟩⟩⟩⟩
theorem zo4:TyZ Tryz.prog 82 En.SBranch (([],0):SBranch):=⟨_,_,([.slice none 0 0]++[.int .i64 0]),rfl,rfl,by rfl,fun _ _=>⟨_,_,rfl,⟨_,rfl,zew _ _ _⟩,⟨rfl,by decide⟩⟩⟩
theorem tyz106:TyZ Tryz.prog 106 En.Sof_word ([]:Sof_word):=⟨_,_,[.slice none 0 0],rfl,rfl,by rfl,fun _ _=>⟨_,rfl,zew _ _ _⟩⟩
theorem tyz108:TyZ Tryz.prog 108 En.SFound_scantling_api_State_search (((0,[],[],0,0,0,0),[]):SFound_scantling_api_State_search):=⟨_,_,(([.int .i64 0]++([.slice none 0 0]++([.slice none 0 0]++([.int .i64 0]++([.int .i64 0]++([.int .i64 0]++[.int .i64 0]))))))++[.slice none 0 0]),rfl,rfl,by rfl,fun _ _=>⟨_,_,rfl,⟨_,_,rfl,⟨rfl,by decide⟩,⟨_,_,rfl,⟨_,rfl,zew _ _ _⟩,⟨_,_,rfl,⟨_,rfl,zew _ _ _⟩,⟨_,_,rfl,⟨rfl,by decide⟩,⟨_,_,rfl,⟨rfl,by decide⟩,⟨_,_,rfl,⟨rfl,by decide⟩,⟨rfl,by decide⟩⟩⟩⟩⟩⟩⟩,⟨_,rfl,zew _ _ _⟩⟩⟩
theorem tyz112:TyZ Tryz.prog 112 En.SSpace_scantling_api_State_search (([],(fun _=>False),(fun _=>False),(fun _=>False)):SSpace_scantling_api_State_search):=⟨_,_,([.slice none 0 0]++([.nilFunc]++([.nilFunc]++[.nilFunc]))),rfl,rfl,by rfl,fun _ _=>⟨_,_,rfl,⟨_,rfl,zew _ _ _⟩,⟨_,_,rfl,.inl ⟨rfl,fun _ h=>h⟩,⟨_,_,rfl,.inl ⟨rfl,fun _ h=>h⟩,.inl ⟨rfl,fun _ h=>h⟩⟩⟩⟩⟩
theorem tyz150:TyZ Tryz.prog 150 En.SOn_scantling_api_State_search ((0,[]):SOn_scantling_api_State_search):=⟨_,_,([.int .u8 0]++[.slice none 0 0]),rfl,rfl,by rfl,fun _ _=>⟨_,_,rfl,⟨rfl,by decide⟩,⟨_,rfl,zew _ _ _⟩⟩⟩
theorem tyz152:TyZ Tryz.prog 152 En.Smade_scantling_api_State_search (([],0,0):Smade_scantling_api_State_search):=⟨_,_,([.slice none 0 0]++([.int .i64 0]++[.int .u8 0])),rfl,rfl,by rfl,fun _ _=>⟨_,_,rfl,⟨_,rfl,zew _ _ _⟩,⟨_,_,rfl,⟨rfl,by decide⟩,⟨rfl,by decide⟩⟩⟩⟩
theorem tyz170:TyZ Tryz.prog 170 En.Sstep_next (((0,0,0,0,0,(0#256),([]:Str)),(0,0,0,0),0):Sstep_next):=⟨_,_,(([.int .i64 0]++([.int .i64 0]++([.int .i64 0]++([.int .i64 0]++([.int .i64 0]++(zbu 0#256++[.string ⟨#[]⟩]))))))++(([.int .i64 0]++([.int .i64 0]++([.int .i64 0]++[.int .i64 0])))++[.int .u8 0])),rfl,rfl,by rfl,fun _ _=>⟨_,_,rfl,⟨_,_,rfl,⟨rfl,by decide⟩,⟨_,_,rfl,⟨rfl,by decide⟩,⟨_,_,rfl,⟨rfl,by decide⟩,⟨_,_,rfl,⟨rfl,by decide⟩,⟨_,_,rfl,⟨rfl,by decide⟩,⟨_,_,rfl,rfl,⟨rfl,by decide⟩⟩⟩⟩⟩⟩⟩,⟨_,_,rfl,⟨_,_,rfl,⟨rfl,by decide⟩,⟨_,_,rfl,⟨rfl,by decide⟩,⟨_,_,rfl,⟨rfl,by decide⟩,⟨rfl,by decide⟩⟩⟩⟩,⟨rfl,by decide⟩⟩⟩⟩
theorem tyz209:TyZ Tryz.prog 209 EnF209 ((fun _=>False):(Cl × Int→Prop)):=⟨_,_,[.nilFunc],rfl,rfl,by rfl,fun _ _=>.inl ⟨rfl,fun _ h=>h⟩⟩
theorem tyv3:TyV Tryz.prog 3 (En.int .i64) (0:Int):=⟨_,[.int .i64 0],rfl,by rfl,fun _ _=>⟨rfl,by decide⟩⟩
theorem tyv4:TyV Tryz.prog 4 En.bool (false:Bool):=⟨_,[.bool false],rfl,by rfl,fun _ _=>rfl⟩
theorem stt24:Stt Tryz.prog 24 [(0,1)]:=⟨_,Tryz.underlying24,by kernel_rfl⟩
theorem stt58:Stt Tryz.prog 58 [(0,1),(1,1),(2,1),(3,1),(4,1),(5,1),(6,1)]:=⟨_,Tryz.underlying58,by kernel_rfl⟩
theorem stt68:Stt Tryz.prog 68 [(0,1),(1,1),(2,1),(3,1),(4,1),(5,4),(9,1)]:=⟨_,Tryz.underlying68,by kernel_rfl⟩
theorem stt77:Stt Tryz.prog 77 [(0,1),(1,1),(2,1),(3,1)]:=⟨_,Tryz.underlying77,by kernel_rfl⟩
theorem stt82:Stt Tryz.prog 82 [(0,1),(1,1)]:=⟨_,Tryz.underlying82,by kernel_rfl⟩
theorem stt106:Stt Tryz.prog 106 [(0,1)]:=⟨_,Tryz.underlying106,by kernel_rfl⟩
theorem stt108:Stt Tryz.prog 108 [(0,7),(7,1)]:=⟨_,Tryz.underlying108,by kernel_rfl⟩
theorem stt112:Stt Tryz.prog 112 [(0,1),(1,1),(2,1),(3,1)]:=⟨_,Tryz.underlying112,by kernel_rfl⟩
theorem stt150:Stt Tryz.prog 150 [(0,1),(1,1)]:=⟨_,Tryz.underlying150,by kernel_rfl⟩
theorem stt152:Stt Tryz.prog 152 [(0,1),(1,1),(2,1)]:=⟨_,Tryz.underlying152,by kernel_rfl⟩
theorem stt170:Stt Tryz.prog 170 [(0,10),(10,4),(14,1)]:=⟨_,Tryz.underlying170,by kernel_rfl⟩
instance ud3:Ud Tryz.prog 3 (.int .i64):=⟨Tryz.underlying3⟩
instance ud5:Ud Tryz.prog 5 (.int .u8):=⟨Tryz.underlying5⟩
instance ud9:Ud Tryz.prog 9 (.string):=⟨Tryz.underlying9⟩
instance ud22:Ud Tryz.prog 22 (.slice 68):=⟨Tryz.underlying22⟩
instance ud25:Ud Tryz.prog 25 (.slice 47):=⟨Tryz.underlying25⟩
instance ud26:Ud Tryz.prog 26 (.slice 5):=⟨Tryz.underlying26⟩
instance ud36:Ud Tryz.prog 36 (.slice 51):=⟨Tryz.underlying36⟩
instance ud46:Ud Tryz.prog 46 (.slice 77):=⟨Tryz.underlying46⟩
instance ud47:Ud Tryz.prog 47 (.slice 77):=⟨Tryz.underlying47⟩
instance ud51:Ud Tryz.prog 51 (.array 4 49):=⟨Tryz.underlying51⟩
instance ud78:Ud Tryz.prog 78 (.map 9 47):=⟨Tryz.underlying78⟩
instance ud79:Ud Tryz.prog 79 (.slice 82):=⟨Tryz.underlying79⟩
instance ud90:Ud Tryz.prog 90 (.map 51 4):=⟨Tryz.underlying90⟩
instance ud91:Ud Tryz.prog 91 (.slice 3):=⟨Tryz.underlying91⟩
instance ud92:Ud Tryz.prog 92 (.slice 3):=⟨Tryz.underlying92⟩
instance ud119:Ud Tryz.prog 119 (.slice 4):=⟨Tryz.underlying119⟩
instance ud124:Ud Tryz.prog 124 (.map 9 3):=⟨Tryz.underlying124⟩
instance ud133:Ud Tryz.prog 133 (.int .u64):=⟨Tryz.underlying133⟩
instance ud148:Ud Tryz.prog 148 (.slice 150):=⟨Tryz.underlying148⟩
instance ud153:Ud Tryz.prog 153 (.slice 152):=⟨Tryz.underlying153⟩
instance ud154:Ud Tryz.prog 154 (.map 9 4):=⟨Tryz.underlying154⟩
instance ud213:Ud Tryz.prog 213 (.array 10 4):=⟨Tryz.underlying213⟩
instance us49:Us Tryz.prog 49 1:=⟨by rfl⟩
instance tq3:Tq Tryz.prog 3 (En.int .i64):=⟨ty3⟩
instance tq4:Tq Tryz.prog 4 En.bool:=⟨ty4⟩
instance tq5:Tq Tryz.prog 5 (En.int .u8):=⟨ty5⟩
instance tq9:Tq Tryz.prog 9 En.str:=⟨ty9⟩
instance tq22:Tq Tryz.prog 22 (En.slice En.SNode):=⟨ty22⟩
instance tq24:Tq Tryz.prog 24 En.SDesc:=⟨ty24⟩
instance tq25:Tq Tryz.prog 25 (En.slice (En.slice En.SItem)):=⟨ty25⟩
instance tq26:Tq Tryz.prog 26 (En.slice (En.int .u8)):=⟨ty26⟩
instance tq43:Tq Tryz.prog 43 EnF43:=⟨ty43⟩
instance tq47:Tq Tryz.prog 47 (En.slice En.SItem):=⟨zqq⟩
instance tq49:Tq Tryz.prog 49 (En.int .u64):=⟨ty49⟩
instance tq51:Tq Tryz.prog 51 En.cls:=⟨zgi⟩
instance tq58:Tq Tryz.prog 58 En.SVerdict:=⟨ty58⟩
instance tq68:Tq Tryz.prog 68 En.SNode:=⟨ty68⟩
instance tq77:Tq Tryz.prog 77 En.SItem:=⟨zlm⟩
instance tq82:Tq Tryz.prog 82 En.SBranch:=⟨ty82⟩
instance tq106:Tq Tryz.prog 106 En.Sof_word:=⟨ty106⟩
instance tq108:Tq Tryz.prog 108 En.SFound_scantling_api_State_search:=⟨ty108⟩
instance tq109:Tq Tryz.prog 109 EnF109:=⟨ty109⟩
instance tq110:Tq Tryz.prog 110 EnF110:=⟨ty110⟩
instance tq150:Tq Tryz.prog 150 En.SOn_scantling_api_State_search:=⟨ty150⟩
instance tq152:Tq Tryz.prog 152 En.Smade_scantling_api_State_search:=⟨ty152⟩
instance tq209:Tq Tryz.prog 209 EnF209:=⟨ty209⟩
instance fd24_0 {a:SDesc}:Fd Tryz.prog 24 0 En.SDesc a 0 (En.slice En.SNode) a:=⟨_,_,Tryz.underlying24,rfl,(zjn (z6 _ _)),rfl,ty22⟩
instance fd58_0 {a:SVerdict}:Fd Tryz.prog 58 0 En.SVerdict a 0 (En.int .i64) a.1:=⟨_,_,Tryz.underlying58,rfl,(zbi (z6 _ _)),rfl,ty3⟩
instance fd58_1 {a:SVerdict}:Fd Tryz.prog 58 1 En.SVerdict a 1 (En.slice (En.int .u8)) a.2.1:=⟨_,_,Tryz.underlying58,rfl,(zq (zbi (z6 _ _)) rfl),rfl,ty26⟩
instance fd58_6 {a:SVerdict}:Fd Tryz.prog 58 6 En.SVerdict a 6 (En.int .i64) a.2.2.2.2.2.2:=⟨_,_,Tryz.underlying58,rfl,(zq (zq (zq (zq (zq (zq (z6 _ _) rfl) rfl) rfl) rfl) rfl) rfl),rfl,ty3⟩
instance fd68_0 {a:SNode}:Fd Tryz.prog 68 0 En.SNode a 0 (En.int .i64) a.1:=⟨_,_,Tryz.underlying68,rfl,(zbi (z6 _ _)),rfl,ty3⟩
instance fd68_1 {a:SNode}:Fd Tryz.prog 68 1 En.SNode a 1 (En.int .i64) a.2.1:=⟨_,_,Tryz.underlying68,rfl,(zq (zbi (z6 _ _)) rfl),rfl,ty3⟩
instance fd68_2 {a:SNode}:Fd Tryz.prog 68 2 En.SNode a 2 (En.int .i64) a.2.2.1:=⟨_,_,Tryz.underlying68,rfl,(zq (zq (zbi (z6 _ _)) rfl) rfl),rfl,ty3⟩
instance fd68_3 {a:SNode}:Fd Tryz.prog 68 3 En.SNode a 3 (En.int .i64) a.2.2.2.1:=⟨_,_,Tryz.underlying68,rfl,(zq (zq (zq (zbi (z6 _ _)) rfl) rfl) rfl),rfl,ty3⟩
instance fd68_4 {a:SNode}:Fd Tryz.prog 68 4 En.SNode a 4 (En.int .i64) a.2.2.2.2.1:=⟨_,_,Tryz.underlying68,rfl,(zq (zq (zq (zq (zbi (z6 _ _)) rfl) rfl) rfl) rfl),rfl,ty3⟩
instance fd68_5 {a:SNode}:Fd Tryz.prog 68 5 En.SNode a 5 En.cls a.2.2.2.2.2.1:=⟨_,_,Tryz.underlying68,rfl,(zq (zq (zq (zq (zq (zbi (z6 _ _)) rfl) rfl) rfl) rfl) rfl),rfl,zgi⟩
instance fd68_6 {a:SNode}:Fd Tryz.prog 68 6 En.SNode a 9 En.str a.2.2.2.2.2.2:=⟨_,_,Tryz.underlying68,rfl,(zq (zq (zq (zq (zq (zq (z6 _ _) rfl) rfl) rfl) rfl) rfl) rfl),rfl,ty9⟩
instance fd77_0 {a:SItem}:Fd Tryz.prog 77 0 En.SItem a 0 (En.int .i64) a.1:=⟨_,_,Tryz.underlying77,rfl,(zbi (z6 _ _)),rfl,ty3⟩
instance fd77_1 {a:SItem}:Fd Tryz.prog 77 1 En.SItem a 1 (En.int .i64) a.2.1:=⟨_,_,Tryz.underlying77,rfl,(zq (zbi (z6 _ _)) rfl),rfl,ty3⟩
instance fd77_2 {a:SItem}:Fd Tryz.prog 77 2 En.SItem a 2 (En.int .i64) a.2.2.1:=⟨_,_,Tryz.underlying77,rfl,(zq (zq (zbi (z6 _ _)) rfl) rfl),rfl,ty3⟩
instance fd77_3 {a:SItem}:Fd Tryz.prog 77 3 En.SItem a 3 (En.int .i64) a.2.2.2:=⟨_,_,Tryz.underlying77,rfl,(zq (zq (zq (z6 _ _) rfl) rfl) rfl),rfl,ty3⟩
instance fd82_0 {a:SBranch}:Fd Tryz.prog 82 0 En.SBranch a 0 (En.slice En.SItem) a.1:=⟨_,_,Tryz.underlying82,rfl,(zbi (z6 _ _)),rfl,zqq⟩
instance fd82_1 {a:SBranch}:Fd Tryz.prog 82 1 En.SBranch a 1 (En.int .i64) a.2:=⟨_,_,Tryz.underlying82,rfl,(zq (z6 _ _) rfl),rfl,ty3⟩
instance fd106_0 {a:Sof_word}:Fd Tryz.prog 106 0 En.Sof_word a 0 En.SDesc a:=⟨_,_,Tryz.underlying106,rfl,(zjn (z6 _ _)),rfl,ty24⟩
instance fd112_0 {a:SSpace_scantling_api_State_search}:Fd Tryz.prog 112 0 En.SSpace_scantling_api_State_search a 0 (En.slice (En.slice En.SItem)) a.1:=⟨_,_,Tryz.underlying112,rfl,(zbi (z6 _ _)),rfl,ty25⟩
instance fd112_1 {a:SSpace_scantling_api_State_search}:Fd Tryz.prog 112 1 En.SSpace_scantling_api_State_search a 1 EnF43 a.2.1:=⟨_,_,Tryz.underlying112,rfl,(zq (zbi (z6 _ _)) rfl),rfl,ty43⟩
instance fd112_2 {a:SSpace_scantling_api_State_search}:Fd Tryz.prog 112 2 En.SSpace_scantling_api_State_search a 2 EnF109 a.2.2.1:=⟨_,_,Tryz.underlying112,rfl,(zq (zq (zbi (z6 _ _)) rfl) rfl),rfl,ty109⟩
instance fd112_3 {a:SSpace_scantling_api_State_search}:Fd Tryz.prog 112 3 En.SSpace_scantling_api_State_search a 3 EnF110 a.2.2.2:=⟨_,_,Tryz.underlying112,rfl,(zq (zq (zq (z6 _ _) rfl) rfl) rfl),rfl,ty110⟩
instance fd150_0 {a:SOn_scantling_api_State_search}:Fd Tryz.prog 150 0 En.SOn_scantling_api_State_search a 0 (En.int .u8) a.1:=⟨_,_,Tryz.underlying150,rfl,(zbi (z6 _ _)),rfl,ty5⟩
instance fd150_1 {a:SOn_scantling_api_State_search}:Fd Tryz.prog 150 1 En.SOn_scantling_api_State_search a 1 (En.slice (En.slice En.SItem)) a.2:=⟨_,_,Tryz.underlying150,rfl,(zq (z6 _ _) rfl),rfl,ty25⟩
instance fd152_0 {a:Smade_scantling_api_State_search}:Fd Tryz.prog 152 0 En.Smade_scantling_api_State_search a 0 (En.slice (En.slice En.SItem)) a.1:=⟨_,_,Tryz.underlying152,rfl,(zbi (z6 _ _)),rfl,ty25⟩
instance fd152_1 {a:Smade_scantling_api_State_search}:Fd Tryz.prog 152 1 En.Smade_scantling_api_State_search a 1 (En.int .i64) a.2.1:=⟨_,_,Tryz.underlying152,rfl,(zq (zbi (z6 _ _)) rfl),rfl,ty3⟩
instance fd152_2 {a:Smade_scantling_api_State_search}:Fd Tryz.prog 152 2 En.Smade_scantling_api_State_search a 2 (En.int .u8) a.2.2:=⟨_,_,Tryz.underlying152,rfl,(zq (zq (z6 _ _) rfl) rfl),rfl,ty5⟩
instance fd170_0 {a:Sstep_next}:Fd Tryz.prog 170 0 En.Sstep_next a 0 En.SNode a.1:=⟨_,_,Tryz.underlying170,rfl,(zbi (z6 _ _)),rfl,ty68⟩
instance fd170_1 {a:Sstep_next}:Fd Tryz.prog 170 1 En.Sstep_next a 10 En.SItem a.2.1:=⟨_,_,Tryz.underlying170,rfl,(zq (zbi (z6 _ _)) rfl),rfl,zlm⟩
instance fd170_2 {a:Sstep_next}:Fd Tryz.prog 170 2 En.Sstep_next a 14 (En.int .u8) a.2.2:=⟨_,_,Tryz.underlying170,rfl,(zq (zq (z6 _ _) rfl) rfl),rfl,ty5⟩
theorem eqi68:EqI Tryz.prog 3 68 En.SNode:=eqi_struct rfl (by kernel_rfl) (by kernel_rfl) rfl (zhy (EqI.up (zos Tryz.underlying3) (by decide)) ty3 (by kernel_rfl) (by kernel_rfl) (zhy (EqI.up (zos Tryz.underlying3) (by decide)) ty3 (by kernel_rfl) (by kernel_rfl) (zhy (EqI.up (zos Tryz.underlying3) (by decide)) ty3 (by kernel_rfl) (by kernel_rfl) (zhy (EqI.up (zos Tryz.underlying3) (by decide)) ty3 (by kernel_rfl) (by kernel_rfl) (zhy (EqI.up (zos Tryz.underlying3) (by decide)) ty3 (by kernel_rfl) (by kernel_rfl) (zhy (EqI.up (eqi_cls Tryz.underlying51 Tryz.underlying49 (by kernel_rfl)) (by decide)) zgi (by kernel_rfl) (by kernel_rfl) (eqfs_last (EqI.up (eqi_str Tryz.underlying9) (by decide)) ty9 (by kernel_rfl) (by kernel_rfl))))))))
theorem eq68:Eqv Tryz.prog 68 En.SNode:=eqv_struct eqi68 (by decide) rfl (by kernel_rfl)
theorem zrx:KeyT Tryz.prog 51 En.cls kvCls:=key_cls Tryz.underlying51 Tryz.underlying49 (by kernel_rfl) (by kernel_rfl) (by kernel_rfl) ⟨_,rfl⟩ (by kernel_rfl) (by kernel_rfl)
open Go.Shelf
set_option maxRecDepth 100000
def sl169_ren:Go.Shelf.Ren:=⟨fun | 169=>71 | n=>n,fun | 70=>94 | 9=>9 | 0=>0 | 72=>96 | 37=>26 | 127=>147 | 3=>3 | 5=>5 | n=>n,fun | n=>n⟩
theorem sl169:Go.Proofs.Lays.n169 Tryz.prog sl169_ren where
 mixed:=by kernel_rfl
 f169:=Tryz.func71.trans (congrArg some (by kernel_rfl))
 t0:=Tryz.underlying0
 a0:=Tryz.isAgg0
 z0:=Tryz.sizeOf0
 v0:=Tryz.zeroValue0
 t3:=Tryz.underlying3
 a3:=Tryz.isAgg3
 z3:=Tryz.sizeOf3
 v3:=Tryz.zeroValue3
 t9:=Tryz.underlying9
 a9:=Tryz.isAgg9
 z9:=Tryz.sizeOf9
 v9:=Tryz.zeroValue9
 t37:=Tryz.underlying26
 a37:=Tryz.isAgg26
 z37:=Tryz.sizeOf26
 v37:=Tryz.zeroValue26
 t70:=Tryz.underlying94
 a70:=Tryz.isAgg94
 z70:=Tryz.sizeOf94
 v70:=Tryz.zeroValue94
 t72:=Tryz.underlying96
 a72:=Tryz.isAgg96
 z72:=Tryz.sizeOf96
 v72:=Tryz.zeroValue96
 t127:=Tryz.underlying147
 a127:=Tryz.isAgg147
 z127:=Tryz.sizeOf147
 v127:=Tryz.zeroValue147
def sl171_ren:Go.Shelf.Ren:=⟨fun | 171=>93 | 243=>121 | 246=>154 | 283=>174 | 284=>175 | 285=>176 | 286=>177 | 129=>131 | 317=>181 | 318=>182 | 319=>183 | 320=>184 | 337=>187 | 338=>188 | n=>n,fun | 3=>3 | 9=>9 | 2=>2 | 4=>4 | 171=>218 | 0=>0 | 53=>49 | 37=>26 | 5=>5 | 173=>220 | 212=>227 | 51=>181 | 20=>20 | 213=>228 | 46=>133 | 232=>231 | 233=>232 | n=>n,fun | 17=>2 | 18=>3 | 19=>4 | n=>n⟩
theorem sl171:Go.Proofs.LaysM.n171 Tryz.prog sl171_ren where
 mixed:=by kernel_rfl
 f129:=Tryz.func131.trans (congrArg some (by kernel_rfl))
 f171:=Tryz.func93.trans (congrArg some (by kernel_rfl))
 f243:=Tryz.func121.trans (congrArg some (by kernel_rfl))
 f246:=Tryz.func154.trans (congrArg some (by kernel_rfl))
 f283:=Tryz.func174.trans (congrArg some (by kernel_rfl))
 f284:=Tryz.func175.trans (congrArg some (by kernel_rfl))
 f285:=Tryz.func176.trans (congrArg some (by kernel_rfl))
 f286:=Tryz.func177.trans (congrArg some (by kernel_rfl))
 f317:=Tryz.func181.trans (congrArg some (by kernel_rfl))
 f318:=Tryz.func182.trans (congrArg some (by kernel_rfl))
 f319:=Tryz.func183.trans (congrArg some (by kernel_rfl))
 f320:=Tryz.func184.trans (congrArg some (by kernel_rfl))
 f337:=Tryz.func187.trans (congrArg some (by kernel_rfl))
 f338:=Tryz.func188.trans (congrArg some (by kernel_rfl))
 t0:=Tryz.underlying0
 a0:=Tryz.isAgg0
 z0:=Tryz.sizeOf0
 v0:=Tryz.zeroValue0
 t2:=Tryz.underlying2
 a2:=Tryz.isAgg2
 z2:=Tryz.sizeOf2
 v2:=Tryz.zeroValue2
 t3:=Tryz.underlying3
 a3:=Tryz.isAgg3
 z3:=Tryz.sizeOf3
 v3:=Tryz.zeroValue3
 t4:=Tryz.underlying4
 a4:=Tryz.isAgg4
 z4:=Tryz.sizeOf4
 v4:=Tryz.zeroValue4
 t5:=Tryz.underlying5
 a5:=Tryz.isAgg5
 z5:=Tryz.sizeOf5
 v5:=Tryz.zeroValue5
 t9:=Tryz.underlying9
 a9:=Tryz.isAgg9
 z9:=Tryz.sizeOf9
 v9:=Tryz.zeroValue9
 t20:=Tryz.underlying20
 a20:=Tryz.isAgg20
 z20:=Tryz.sizeOf20
 v20:=Tryz.zeroValue20
 t37:=Tryz.underlying26
 a37:=Tryz.isAgg26
 z37:=Tryz.sizeOf26
 v37:=Tryz.zeroValue26
 t46:=Tryz.underlying133
 a46:=Tryz.isAgg133
 z46:=Tryz.sizeOf133
 v46:=Tryz.zeroValue133
 t51:=Tryz.underlying181
 a51:=Tryz.isAgg181
 z51:=Tryz.sizeOf181
 v51:=Tryz.zeroValue181
 t53:=Tryz.underlying49
 a53:=Tryz.isAgg49
 z53:=Tryz.sizeOf49
 v53:=Tryz.zeroValue49
 t171:=Tryz.underlying218
 a171:=Tryz.isAgg218
 z171:=Tryz.sizeOf218
 v171:=Tryz.zeroValue218
 t173:=Tryz.underlying220
 a173:=Tryz.isAgg220
 z173:=Tryz.sizeOf220
 v173:=Tryz.zeroValue220
 t212:=Tryz.underlying227
 a212:=Tryz.isAgg227
 z212:=Tryz.sizeOf227
 v212:=Tryz.zeroValue227
 t213:=Tryz.underlying228
 a213:=Tryz.isAgg228
 z213:=Tryz.sizeOf228
 t232:=Tryz.underlying231
 a232:=Tryz.isAgg231
 z232:=Tryz.sizeOf231
 v232:=Tryz.zeroValue231
 t233:=Tryz.underlying232
 a233:=Tryz.isAgg232
 z233:=Tryz.sizeOf232
 v233:=Tryz.zeroValue232
 g17:=by kernel_rfl
 g18:=by kernel_rfl
 g19:=by kernel_rfl
 i0:=by kernel_rfl
 i2:=by kernel_rfl
 i3:=by kernel_rfl
 i4:=by kernel_rfl
 i5:=by kernel_rfl
 i9:=by kernel_rfl
 i20:=by kernel_rfl
 i37:=by kernel_rfl
 i46:=by kernel_rfl
 i51:=by kernel_rfl
 i53:=by kernel_rfl
 i171:=by kernel_rfl
 i173:=by kernel_rfl
 i212:=by kernel_rfl
 i232:=by kernel_rfl
 i233:=by kernel_rfl
 m17:=by kernel_rfl
 m18:=by kernel_rfl
 m19:=by kernel_rfl
def slsort_ren:Go.Shelf.Ren:=⟨fun | 6=>91 | 15=>95 | 14=>120 | 28=>130 | 29=>131 | 20=>146 | 21=>147 | 22=>148 | 23=>149 | 24=>150 | 25=>151 | 26=>152 | 27=>153 | 46=>171 | 47=>156 | 48=>157 | 49=>172 | 50=>173 | 57=>180 | n=>n,fun | 22=>79 | 24=>82 | 25=>129 | 3=>3 | 39=>133 | 0=>0 | 53=>181 | 55=>49 | 4=>4 | 46=>175 | 45=>174 | 50=>70 | 5=>5 | 9=>9 | 66=>201 | 70=>205 | 76=>222 | 77=>61 | n=>n,fun | n=>n⟩
theorem slsort:Go.Proofs.SlLaysF0.n6 Tryz.prog slsort_ren where
 mixed:=by kernel_rfl
 f6:=⟨"slices.SortFunc[[]scantling/api.Branch,scantling/api.Branch]",by decide,Tryz.func91.trans (congrArg some (by kernel_rfl))⟩
 f14:=⟨"slices.pdqsortCmpFunc[scantling/api.Branch]",by decide,Tryz.func120.trans (congrArg some (by kernel_rfl))⟩
 f15:=Tryz.func95.trans (congrArg some (by kernel_rfl))
 f20:=⟨"slices.insertionSortCmpFunc[scantling/api.Branch]",by decide,Tryz.func146.trans (congrArg some (by kernel_rfl))⟩
 f21:=⟨"slices.heapSortCmpFunc[scantling/api.Branch]",by decide,Tryz.func147.trans (congrArg some (by kernel_rfl))⟩
 f22:=⟨"slices.breakPatternsCmpFunc[scantling/api.Branch]",by decide,Tryz.func148.trans (congrArg some (by kernel_rfl))⟩
 f23:=⟨"slices.choosePivotCmpFunc[scantling/api.Branch]",by decide,Tryz.func149.trans (congrArg some (by kernel_rfl))⟩
 f24:=⟨"slices.reverseRangeCmpFunc[scantling/api.Branch]",by decide,Tryz.func150.trans (congrArg some (by kernel_rfl))⟩
 f25:=⟨"slices.partialInsertionSortCmpFunc[scantling/api.Branch]",by decide,Tryz.func151.trans (congrArg some (by kernel_rfl))⟩
 f26:=⟨"slices.partitionEqualCmpFunc[scantling/api.Branch]",by decide,Tryz.func152.trans (congrArg some (by kernel_rfl))⟩
 f27:=⟨"slices.partitionCmpFunc[scantling/api.Branch]",by decide,Tryz.func153.trans (congrArg some (by kernel_rfl))⟩
 f28:=Tryz.func130.trans (congrArg some (by kernel_rfl))
 f29:=Tryz.func131.trans (congrArg some (by kernel_rfl))
 f46:=⟨"slices.siftDownCmpFunc[scantling/api.Branch]",by decide,Tryz.func171.trans (congrArg some (by kernel_rfl))⟩
 f47:=Tryz.func156.trans (congrArg some (by kernel_rfl))
 f48:=Tryz.func157.trans (congrArg some (by kernel_rfl))
 f49:=⟨"slices.medianAdjacentCmpFunc[scantling/api.Branch]",by decide,Tryz.func172.trans (congrArg some (by kernel_rfl))⟩
 f50:=⟨"slices.medianCmpFunc[scantling/api.Branch]",by decide,Tryz.func173.trans (congrArg some (by kernel_rfl))⟩
 f57:=⟨"slices.order2CmpFunc[scantling/api.Branch]",by decide,Tryz.func180.trans (congrArg some (by kernel_rfl))⟩
 t0:=Tryz.underlying0
 a0:=Tryz.isAgg0
 z0:=Tryz.sizeOf0
 v0:=Tryz.zeroValue0
 t3:=Tryz.underlying3
 a3:=Tryz.isAgg3
 z3:=Tryz.sizeOf3
 v3:=Tryz.zeroValue3
 t4:=Tryz.underlying4
 a4:=Tryz.isAgg4
 z4:=Tryz.sizeOf4
 v4:=Tryz.zeroValue4
 t5:=Tryz.underlying5
 a5:=Tryz.isAgg5
 z5:=Tryz.sizeOf5
 v5:=Tryz.zeroValue5
 t9:=Tryz.underlying9
 a9:=Tryz.isAgg9
 z9:=Tryz.sizeOf9
 v9:=Tryz.zeroValue9
 t22:=Tryz.underlying79
 a22:=Tryz.isAgg79
 z22:=Tryz.sizeOf79
 v22:=Tryz.zeroValue79
 t25:=Tryz.underlying129
 a25:=Tryz.isAgg129
 z25:=Tryz.sizeOf129
 v25:=Tryz.zeroValue129
 t39:=Tryz.underlying133
 a39:=Tryz.isAgg133
 z39:=Tryz.sizeOf133
 v39:=Tryz.zeroValue133
 t45:=Tryz.underlying174
 a45:=Tryz.isAgg174
 z45:=Tryz.sizeOf174
 v45:=Tryz.zeroValue174
 t46:=Tryz.underlying175
 a46:=Tryz.isAgg175
 z46:=Tryz.sizeOf175
 v46:=Tryz.zeroValue175
 t50:=Tryz.underlying70
 a50:=Tryz.isAgg70
 z50:=Tryz.sizeOf70
 v50:=Tryz.zeroValue70
 t53:=Tryz.underlying181
 a53:=Tryz.isAgg181
 z53:=Tryz.sizeOf181
 v53:=Tryz.zeroValue181
 t55:=Tryz.underlying49
 a55:=Tryz.isAgg49
 z55:=Tryz.sizeOf49
 v55:=Tryz.zeroValue49
 t66:=Tryz.underlying201
 a66:=Tryz.isAgg201
 z66:=Tryz.sizeOf201
 v66:=Tryz.zeroValue201
 t70:=Tryz.underlying205
 a70:=Tryz.isAgg205
 z70:=Tryz.sizeOf205
 v70:=Tryz.zeroValue205
 t76:=Tryz.underlying222
 a76:=Tryz.isAgg222
 z76:=Tryz.sizeOf222
 v76:=Tryz.zeroValue222
 t77:=Tryz.underlying61
 a77:=Tryz.isAgg61
 z77:=Tryz.sizeOf61
 v77:=Tryz.zeroValue61
def slsortS_ren:Go.Shelf.Ren:=⟨fun | 6=>57 | 15=>95 | 14=>94 | 28=>130 | 29=>131 | 20=>122 | 21=>123 | 22=>124 | 23=>125 | 24=>126 | 25=>127 | 26=>128 | 27=>129 | 46=>155 | 47=>156 | 48=>157 | 49=>158 | 50=>159 | 57=>178 | n=>n,fun | 22=>25 | 24=>47 | 25=>73 | 3=>3 | 39=>133 | 0=>0 | 53=>181 | 55=>49 | 4=>4 | 46=>175 | 45=>174 | 50=>70 | 5=>5 | 9=>9 | 66=>201 | 70=>205 | 76=>222 | 77=>61 | n=>n,fun | n=>n⟩
theorem slsortS:Go.Proofs.SlLaysF0.n6 Tryz.prog slsortS_ren where
 mixed:=by kernel_rfl
 f6:=⟨"slices.SortFunc[[]scantling/api.State,scantling/api.State]",by decide,Tryz.func57.trans (congrArg some (by kernel_rfl))⟩
 f14:=⟨"slices.pdqsortCmpFunc[scantling/api.State]",by decide,Tryz.func94.trans (congrArg some (by kernel_rfl))⟩
 f15:=Tryz.func95.trans (congrArg some (by kernel_rfl))
 f20:=⟨"slices.insertionSortCmpFunc[scantling/api.State]",by decide,Tryz.func122.trans (congrArg some (by kernel_rfl))⟩
 f21:=⟨"slices.heapSortCmpFunc[scantling/api.State]",by decide,Tryz.func123.trans (congrArg some (by kernel_rfl))⟩
 f22:=⟨"slices.breakPatternsCmpFunc[scantling/api.State]",by decide,Tryz.func124.trans (congrArg some (by kernel_rfl))⟩
 f23:=⟨"slices.choosePivotCmpFunc[scantling/api.State]",by decide,Tryz.func125.trans (congrArg some (by kernel_rfl))⟩
 f24:=⟨"slices.reverseRangeCmpFunc[scantling/api.State]",by decide,Tryz.func126.trans (congrArg some (by kernel_rfl))⟩
 f25:=⟨"slices.partialInsertionSortCmpFunc[scantling/api.State]",by decide,Tryz.func127.trans (congrArg some (by kernel_rfl))⟩
 f26:=⟨"slices.partitionEqualCmpFunc[scantling/api.State]",by decide,Tryz.func128.trans (congrArg some (by kernel_rfl))⟩
 f27:=⟨"slices.partitionCmpFunc[scantling/api.State]",by decide,Tryz.func129.trans (congrArg some (by kernel_rfl))⟩
 f28:=Tryz.func130.trans (congrArg some (by kernel_rfl))
 f29:=Tryz.func131.trans (congrArg some (by kernel_rfl))
 f46:=⟨"slices.siftDownCmpFunc[scantling/api.State]",by decide,Tryz.func155.trans (congrArg some (by kernel_rfl))⟩
 f47:=Tryz.func156.trans (congrArg some (by kernel_rfl))
 f48:=Tryz.func157.trans (congrArg some (by kernel_rfl))
 f49:=⟨"slices.medianAdjacentCmpFunc[scantling/api.State]",by decide,Tryz.func158.trans (congrArg some (by kernel_rfl))⟩
 f50:=⟨"slices.medianCmpFunc[scantling/api.State]",by decide,Tryz.func159.trans (congrArg some (by kernel_rfl))⟩
 f57:=⟨"slices.order2CmpFunc[scantling/api.State]",by decide,Tryz.func178.trans (congrArg some (by kernel_rfl))⟩
 t0:=Tryz.underlying0
 a0:=Tryz.isAgg0
 z0:=Tryz.sizeOf0
 v0:=Tryz.zeroValue0
 t3:=Tryz.underlying3
 a3:=Tryz.isAgg3
 z3:=Tryz.sizeOf3
 v3:=Tryz.zeroValue3
 t4:=Tryz.underlying4
 a4:=Tryz.isAgg4
 z4:=Tryz.sizeOf4
 v4:=Tryz.zeroValue4
 t5:=Tryz.underlying5
 a5:=Tryz.isAgg5
 z5:=Tryz.sizeOf5
 v5:=Tryz.zeroValue5
 t9:=Tryz.underlying9
 a9:=Tryz.isAgg9
 z9:=Tryz.sizeOf9
 v9:=Tryz.zeroValue9
 t22:=Tryz.underlying25
 a22:=Tryz.isAgg25
 z22:=Tryz.sizeOf25
 v22:=Tryz.zeroValue25
 t25:=Tryz.underlying73
 a25:=Tryz.isAgg73
 z25:=Tryz.sizeOf73
 v25:=Tryz.zeroValue73
 t39:=Tryz.underlying133
 a39:=Tryz.isAgg133
 z39:=Tryz.sizeOf133
 v39:=Tryz.zeroValue133
 t45:=Tryz.underlying174
 a45:=Tryz.isAgg174
 z45:=Tryz.sizeOf174
 v45:=Tryz.zeroValue174
 t46:=Tryz.underlying175
 a46:=Tryz.isAgg175
 z46:=Tryz.sizeOf175
 v46:=Tryz.zeroValue175
 t50:=Tryz.underlying70
 a50:=Tryz.isAgg70
 z50:=Tryz.sizeOf70
 v50:=Tryz.zeroValue70
 t53:=Tryz.underlying181
 a53:=Tryz.isAgg181
 z53:=Tryz.sizeOf181
 v53:=Tryz.zeroValue181
 t55:=Tryz.underlying49
 a55:=Tryz.isAgg49
 z55:=Tryz.sizeOf49
 v55:=Tryz.zeroValue49
 t66:=Tryz.underlying201
 a66:=Tryz.isAgg201
 z66:=Tryz.sizeOf201
 v66:=Tryz.zeroValue201
 t70:=Tryz.underlying205
 a70:=Tryz.isAgg205
 z70:=Tryz.sizeOf205
 v70:=Tryz.zeroValue205
 t76:=Tryz.underlying222
 a76:=Tryz.isAgg222
 z76:=Tryz.sizeOf222
 v76:=Tryz.zeroValue222
 t77:=Tryz.underlying61
 a77:=Tryz.isAgg61
 z77:=Tryz.sizeOf61
 v77:=Tryz.zeroValue61
def slsortT_ren:Go.Shelf.Ren:=⟨fun | 6=>57 | 15=>95 | 14=>94 | 28=>130 | 29=>131 | 20=>122 | 21=>123 | 22=>124 | 23=>125 | 24=>126 | 25=>127 | 26=>128 | 27=>129 | 46=>155 | 47=>156 | 48=>157 | 49=>158 | 50=>159 | 57=>178 | n=>n,fun | 22=>25 | 24=>47 | 25=>73 | 3=>3 | 39=>133 | 0=>0 | 53=>181 | 55=>49 | 4=>4 | 46=>175 | 45=>174 | 50=>70 | 5=>5 | 9=>9 | 66=>201 | 70=>205 | 76=>222 | 77=>61 | n=>n,fun | n=>n⟩
theorem slsortT:Go.Proofs.SlLaysF.n6 Tryz.prog slsortT_ren where
 mixed:=by kernel_rfl
 f6:=⟨"slices.SortFunc[[]scantling/api.State,scantling/api.State]",by decide,Tryz.func57.trans (congrArg some (by kernel_rfl))⟩
 f14:=⟨"slices.pdqsortCmpFunc[scantling/api.State]",by decide,Tryz.func94.trans (congrArg some (by kernel_rfl))⟩
 f15:=Tryz.func95.trans (congrArg some (by kernel_rfl))
 f20:=⟨"slices.insertionSortCmpFunc[scantling/api.State]",by decide,Tryz.func122.trans (congrArg some (by kernel_rfl))⟩
 f21:=⟨"slices.heapSortCmpFunc[scantling/api.State]",by decide,Tryz.func123.trans (congrArg some (by kernel_rfl))⟩
 f22:=⟨"slices.breakPatternsCmpFunc[scantling/api.State]",by decide,Tryz.func124.trans (congrArg some (by kernel_rfl))⟩
 f23:=⟨"slices.choosePivotCmpFunc[scantling/api.State]",by decide,Tryz.func125.trans (congrArg some (by kernel_rfl))⟩
 f24:=⟨"slices.reverseRangeCmpFunc[scantling/api.State]",by decide,Tryz.func126.trans (congrArg some (by kernel_rfl))⟩
 f25:=⟨"slices.partialInsertionSortCmpFunc[scantling/api.State]",by decide,Tryz.func127.trans (congrArg some (by kernel_rfl))⟩
 f26:=⟨"slices.partitionEqualCmpFunc[scantling/api.State]",by decide,Tryz.func128.trans (congrArg some (by kernel_rfl))⟩
 f27:=⟨"slices.partitionCmpFunc[scantling/api.State]",by decide,Tryz.func129.trans (congrArg some (by kernel_rfl))⟩
 f28:=Tryz.func130.trans (congrArg some (by kernel_rfl))
 f29:=Tryz.func131.trans (congrArg some (by kernel_rfl))
 f46:=⟨"slices.siftDownCmpFunc[scantling/api.State]",by decide,Tryz.func155.trans (congrArg some (by kernel_rfl))⟩
 f47:=Tryz.func156.trans (congrArg some (by kernel_rfl))
 f48:=Tryz.func157.trans (congrArg some (by kernel_rfl))
 f49:=⟨"slices.medianAdjacentCmpFunc[scantling/api.State]",by decide,Tryz.func158.trans (congrArg some (by kernel_rfl))⟩
 f50:=⟨"slices.medianCmpFunc[scantling/api.State]",by decide,Tryz.func159.trans (congrArg some (by kernel_rfl))⟩
 f57:=⟨"slices.order2CmpFunc[scantling/api.State]",by decide,Tryz.func178.trans (congrArg some (by kernel_rfl))⟩
 t0:=Tryz.underlying0
 a0:=Tryz.isAgg0
 z0:=Tryz.sizeOf0
 v0:=Tryz.zeroValue0
 t3:=Tryz.underlying3
 a3:=Tryz.isAgg3
 z3:=Tryz.sizeOf3
 v3:=Tryz.zeroValue3
 t4:=Tryz.underlying4
 a4:=Tryz.isAgg4
 z4:=Tryz.sizeOf4
 v4:=Tryz.zeroValue4
 t5:=Tryz.underlying5
 a5:=Tryz.isAgg5
 z5:=Tryz.sizeOf5
 v5:=Tryz.zeroValue5
 t9:=Tryz.underlying9
 a9:=Tryz.isAgg9
 z9:=Tryz.sizeOf9
 v9:=Tryz.zeroValue9
 t22:=Tryz.underlying25
 a22:=Tryz.isAgg25
 z22:=Tryz.sizeOf25
 v22:=Tryz.zeroValue25
 a24:=Tryz.isAgg47
 z24:=Tryz.sizeOf47
 t25:=Tryz.underlying73
 a25:=Tryz.isAgg73
 z25:=Tryz.sizeOf73
 v25:=Tryz.zeroValue73
 t39:=Tryz.underlying133
 a39:=Tryz.isAgg133
 z39:=Tryz.sizeOf133
 v39:=Tryz.zeroValue133
 t45:=Tryz.underlying174
 a45:=Tryz.isAgg174
 z45:=Tryz.sizeOf174
 v45:=Tryz.zeroValue174
 t46:=Tryz.underlying175
 a46:=Tryz.isAgg175
 z46:=Tryz.sizeOf175
 v46:=Tryz.zeroValue175
 t50:=Tryz.underlying70
 a50:=Tryz.isAgg70
 z50:=Tryz.sizeOf70
 v50:=Tryz.zeroValue70
 t53:=Tryz.underlying181
 a53:=Tryz.isAgg181
 z53:=Tryz.sizeOf181
 v53:=Tryz.zeroValue181
 t55:=Tryz.underlying49
 a55:=Tryz.isAgg49
 z55:=Tryz.sizeOf49
 v55:=Tryz.zeroValue49
 t66:=Tryz.underlying201
 a66:=Tryz.isAgg201
 z66:=Tryz.sizeOf201
 v66:=Tryz.zeroValue201
 t70:=Tryz.underlying205
 a70:=Tryz.isAgg205
 z70:=Tryz.sizeOf205
 v70:=Tryz.zeroValue205
 t76:=Tryz.underlying222
 a76:=Tryz.isAgg222
 z76:=Tryz.sizeOf222
 v76:=Tryz.zeroValue222
 t77:=Tryz.underlying61
 a77:=Tryz.isAgg61
 z77:=Tryz.sizeOf61
 v77:=Tryz.zeroValue61
open Go.RowKit
theorem bx169:Builder.Extra Tryz.prog sl169_ren where
 sizeBuilder:=by kernel_rfl
 liesBuilder:=by kernel_rfl
 t5:=Tryz.underlying5
 a5:=Tryz.isAgg5
 z5:=Tryz.sizeOf5
 v5:=Tryz.zeroValue5
 infoByte:=by kernel_rfl
 cellsByte:=by kernel_rfl
 sizeByte:=by kernel_rfl
 neB5:=by decide
theorem zm8 (B b:Nat) (l:List UInt8) (w:World) (h:Lib.IsBuilderF 96 5 B b (Lib.byteCells l) w) (hBw:B≤w.heap.size):
  Calls Tryz.prog 71 #[.pointer (some ⟨b,0,none⟩)] w fun e w'=>e = .returned (.string ⟨l.toArray⟩)∧(Lib.IsBuilderF 96 5 B b (Lib.byteCells l) w'∧Below B w w'∧Lib.OthersKept 5 (some b) w w'):=Any.Builder_String_any_k sl169 bx169 B b l w h hBw
theorem b_itoa (n:Int) (h0:-9223372036854775808≤n) (h1:n≤9223372036854775807) (w:World) (htab:Lib.TabIs Tryz.prog w "internal/strconv.uint64pow10" .u64 Lib.pow10Tab):
  Calls Tryz.prog 93 #[.int .i64 n] w fun e w'=>e = .returned (.string ⟨(Lib.itoa n).toArray⟩)∧∃k os,w'=Sort.grow (w.drewN k) os:=Any.strconv_Itoa sl171 n h0 h1 w htab
set_option maxHeartbeats 1000000 in
set_option maxRecDepth 100000 in
theorem b_used (b:Nat) (w:World) (h0:w.cell? ⟨b,0,none⟩=some (.pointer (some ⟨b,0,none⟩))):
  Calls Tryz.prog 112 #[.pointer (some ⟨b,0,none⟩)] w fun e w'=>e = .returned (.tuple #[])∧w'=w:=by
 obtain ⟨j,hj,_⟩:=Option.map_eq_some_iff.1 bx169.sizeBuilder
 go_enter Tryz.func112,Tryz.ntmps112
 go_wp2
 rw [Lib.run_neq_ptr_same w _ Tryz.underlying94 hj]
 go_wp2
 go_end0
 exact ⟨rfl,rfl⟩
set_option maxHeartbeats 1000000 in
set_option maxRecDepth 100000 in
theorem b_fresh (b:Nat) (w:World) (h0:w.cell? ⟨b,0,none⟩=some (.pointer none)) (hsh:w.shape? b=some (96,2)) (hfz:w.frozen? ⟨b,0,none⟩=false):
  Calls Tryz.prog 112 #[.pointer (some ⟨b,0,none⟩)] w fun e w'=>e = .returned (.tuple #[])∧w'=w.setCell ⟨b,0,none⟩ (.pointer (some ⟨b,0,none⟩)):=by
 obtain ⟨j,hj,hjs⟩:=Option.map_eq_some_iff.1 bx169.sizeBuilder
 go_enter Tryz.func112,Tryz.ntmps112
 go_wp2
 rw [Lib.run_to_unsafe w ⟨b,0,none⟩ Tryz.underlying94 Tryz.underlying188 hj (by rw [hjs];decide) hsh (Nat.zero_lt_succ 1)];simp only [Result.andThen];rw [Oper.upon_value]
 go_wp2
 rw [run_callFunc_extern Tryz.func139 (by kernel_rfl) (by kernel_rfl) (by kernel_rfl) (e:=Extern.AbiNoEscape.same) (by kernel_rfl)];rw [Lib.run_noEscape];simp only [Result.andThen];rw [Oper.upon_value]
 go_wp2
 rw [Lib.run_from_unsafe w ⟨b,0,none⟩ Tryz.underlying188 Tryz.underlying94 hj hsh bx169.liesBuilder];simp only [Result.andThen];rw [Oper.upon_value]
 go_wp2
 go_end0
 exact ⟨rfl,rfl⟩
theorem b_check (B b:Nat) (bs:List Value) (w:World) (h:Lib.IsBuilderF 96 5 B b bs w):
  Calls Tryz.prog 112 #[.pointer (some ⟨b,0,none⟩)] w fun e w'=>e = .returned (.tuple #[])∧(Lib.BuilderAtF 96 5 B b (.pointer (some ⟨b,0,none⟩)) bs w'∧Below B w w'∧Lib.OthersKept 5 (some b) w w'):=by
 rcases h with h | h
 ·refine (b_fresh b w h.cell0 h.shape h.frozen0).mono ?_;rintro e w' ⟨rfl,rfl⟩;exact ⟨rfl,h.used _,(Below.refl B w).setCell (p:=⟨b,0,none⟩) h.1 _,(Lib.OthersKept.refl _ _ w).setCell ⟨b,0,none⟩ rfl _⟩
 ·refine (b_used b w h.cell0).mono ?_;rintro e w' ⟨rfl,rfl⟩;exact ⟨rfl,h,Below.refl B _,Lib.OthersKept.refl _ _ _⟩
set_option maxHeartbeats 2000000 in
set_option maxRecDepth 100000 in
theorem b_byte (B b:Nat) (bs:List Value) (c:Int) (w:World) (h:Lib.IsBuilderF 96 5 B b bs w) (hlen:bs.length+1≤140737488355328) (hBw:B≤w.heap.size):
  Calls Tryz.prog 70 #[.pointer (some ⟨b,0,none⟩),.int .u8 c] w fun e w'=>e = .returned .nilIface∧(Lib.BuilderAtF 96 5 B b (.pointer (some ⟨b,0,none⟩)) (bs++[.int .u8 c]) w'∧Below B w w'∧Lib.OthersKept 5 (some b) w w'):=by
 obtain ⟨i0,hi,hz0,hz1,hz2⟩:=info_parts bx169.infoByte
 go_enter Tryz.func70,Tryz.ntmps70
 go_wp2_with (go_at_call 112;refine (b_check B b bs _ h).mono ?_)
 rintro e w1 ⟨rfl,h1,hb1,hk1⟩;obtain ⟨hB,v,hbk,hown,hne⟩:=h1;have c0:w1.cell? ⟨b,0,none⟩=some (.pointer (some ⟨b,0,none⟩)):=by rw [Lib.cell_of_heap hbk];rfl
 have c1:w1.cell? ⟨b,1,none⟩=some v:=by rw [Lib.cell_of_heap hbk];rfl
 go_wp2_with (at_builtin;refine wpList_append_ownF _ rfl _ _ 26 rfl B 5 i0 (.int .u8 0) 1 1 Tryz.underlying26 hi hz0 hz1 hz2 rfl (by decide) _ _ _ rfl (hown.alloc _) ⟨w1.heap.size,0,none⟩ 1 1 [.int .u8 c] rfl rfl ?c1 ?c2 ?c3 ?c4 ?c5 ?_)
 case c1=>
  intro j u hj
  match j,hj with
  | 0,hj=>simp at hj;subst hj;simp [Addr.add]
 case c2=>intro u hu;simp at hu;subst hu;rfl
 case c3=>unfold maxLen;omega
 case c4=>omega
 case c5=>have:=hb1.size;simp;omega
 intro v' w2 hown' hgrow _;have hlt:b<w1.heap.size:=(Array.getElem?_eq_some_iff.1 hbk).1;have hb2:w2.heap[b]?=some (.cells #[.pointer (some ⟨b,0,none⟩),v] 96 (0,0)):=by
  rw [hgrow.block b (by simp;omega) (fun e=>hne e.symm),Lib.alloc_old w1 _ b hlt];exact hbk
 have d0:w2.cell? ⟨b,0,none⟩=some (.pointer (some ⟨b,0,none⟩)):=by rw [Lib.cell_of_heap hb2];rfl
 have d1:w2.cell? ⟨b,1,none⟩=some v:=by rw [Lib.cell_of_heap hb2];rfl
 have f1:w2.frozen? ⟨b,1,none⟩=false:=Lib.frozen_of_heap hb2 1;obtain ⟨g,cap,rfl⟩:∃g cap,v' = .slice (some ⟨g,0,none⟩) (bs.length+1) cap:=by
  rcases hown'.2 with ⟨_,h0⟩ | ⟨g,cap,cur,fz,hv,_⟩
  ·omega
  ·exact ⟨g,cap,hv⟩
 go_wp2
 go_ret
 refine ⟨rfl, ?_, ?_,((hk1.alloc _).grown hgrow (Lib.ownsRowF_kind (hown.alloc _))).setCell ⟨b,1,none⟩ rfl _⟩
 ·exact Lib.BuilderAtF.put (T:=96) (e:=5) hB hb2 (bs':=bs++[.int .u8 c]) (by simpa using hown') (by decide)
 ·exact ((hb1.alloc (by have:=hb1.size;omega) _).grown hgrow (by have:=hb1.size;simp;omega) (fun k hk=>(hown.lt k hk).1)).setCell (p:=⟨b,1,none⟩) hB _
set_option maxHeartbeats 2000000 in
set_option maxRecDepth 100000 in
theorem b_text (B b:Nat) (bs:List Value) (s:ByteArray) (w:World) (h:Lib.IsBuilderF 96 5 B b bs w) (hlen:bs.length+s.size≤140737488355328) (hBw:B≤w.heap.size):
  Calls Tryz.prog 69 #[.pointer (some ⟨b,0,none⟩),.string s] w fun e w'=>e = .returned (.tuple #[.int .i64 s.size,.nilIface])∧(Lib.BuilderAtF 96 5 B b (.pointer (some ⟨b,0,none⟩)) (bs++Lib.strCells s) w'∧Below B w w'∧Lib.OthersKept 5 (some b) w w'):=by
 obtain ⟨i0,hi,hz0,hz1,hz2⟩:=info_parts bx169.infoByte
 go_enter Tryz.func69,Tryz.ntmps69
 go_wp2_with (go_at_call 112;refine (b_check B b bs _ h).mono ?_)
 rintro e w1 ⟨rfl,h1,hb1,hk1⟩;obtain ⟨hB,v,hbk,hown,hne⟩:=h1;have c0:w1.cell? ⟨b,0,none⟩=some (.pointer (some ⟨b,0,none⟩)):=by rw [Lib.cell_of_heap hbk];rfl
 have c1:w1.cell? ⟨b,1,none⟩=some v:=by rw [Lib.cell_of_heap hbk];rfl
 go_wp2_with (at_builtin;refine Lib.wpList_append_own_stringF _ rfl _ _ 26 9 rfl B 5 i0 Tryz.underlying26 Tryz.underlying9 hi hz0 hz1 hz2 _ _ _ rfl hown s rfl ?c3 ?c4 ?c5 ?_)
 case c3=>unfold maxLen;omega
 case c4=>omega
 case c5=>have:=hb1.size;omega
 intro v' w2 hown' hgrow _;have hlt:b<w1.heap.size:=(Array.getElem?_eq_some_iff.1 hbk).1;have hb2:w2.heap[b]?=some (.cells #[.pointer (some ⟨b,0,none⟩),v] 96 (0,0)):=by
  rw [hgrow.block b hlt (fun e=>hne e.symm)];exact hbk
 have d0:w2.cell? ⟨b,0,none⟩=some (.pointer (some ⟨b,0,none⟩)):=by rw [Lib.cell_of_heap hb2];rfl
 have d1:w2.cell? ⟨b,1,none⟩=some v:=by rw [Lib.cell_of_heap hb2];rfl
 have f1:w2.frozen? ⟨b,1,none⟩=false:=Lib.frozen_of_heap hb2 1;obtain ⟨ao,n',cap,rfl⟩:∃ao n' cap,v' = .slice ao n' cap:=by
  rcases hown'.2 with ⟨hv,_⟩ | ⟨g,cap,cur,fz,hv,_⟩
  ·exact ⟨_,_,_,hv⟩
  ·exact ⟨_,_,_,hv⟩
 go_wp2
 go_ret2
 refine ⟨rfl, ?_, ?_,(hk1.grown hgrow (Lib.ownsRowF_kind hown)).setCell ⟨b,1,none⟩ rfl _⟩
 ·exact Lib.BuilderAtF.put (T:=96) (e:=5) hB hb2 (bs':=bs++Lib.strCells s) (by simpa [Lib.strCells_length] using hown') (by decide)
 ·exact (hb1.grown hgrow (by have:=hb1.size;omega) (fun k hk=>(hown.lt k hk).1)).setCell (p:=⟨b,1,none⟩) hB _
theorem zjb (a:Addr) (k:Nat):(a.add k).block=a.block:=by unfold Addr.add;split <;> rfl
def zsl (w:World) (a:Addr) (xs:List SItem):Prop:=a.block<w.heap.size∧∀(i:Nat) (x:SItem),xs[i]?=some x →
 w.cell? (a.add (i*4))=some (.int .i64 x.1)∧w.cell? ⟨(a.add (i*4)).block,(a.add (i*4)).off+1,none⟩=some (.int .i64 x.2.1)∧w.cell? ⟨(a.add (i*4)).block,(a.add (i*4)).off+2,none⟩=some (.int .i64 x.2.2.1)∧w.cell? ⟨(a.add (i*4)).block,(a.add (i*4)).off+3,none⟩=some (.int .i64 x.2.2.2)
theorem zsl.below {w w':World} {a:Addr} {xs:List SItem} (h:zsl w a xs) {B:Nat} (hb:Below B w w') (hB:a.block<B) {i:Nat} {x:SItem} (hx:xs[i]?=some x):
  w'.cell? (a.add (i*4))=some (.int .i64 x.1)∧w'.cell? ⟨(a.add (i*4)).block,(a.add (i*4)).off+1,none⟩=some (.int .i64 x.2.1)∧w'.cell? ⟨(a.add (i*4)).block,(a.add (i*4)).off+2,none⟩=some (.int .i64 x.2.2.1)∧w'.cell? ⟨(a.add (i*4)).block,(a.add (i*4)).off+3,none⟩=some (.int .i64 x.2.2.2):=by
 obtain ⟨h0,h1,h2,h3⟩:=h.2 i x hx;refine ⟨?_, ?_, ?_, ?_⟩
 ·rw [hb.cell (by rw [zjb];exact hB)];exact h0
 ·rw [hb.cell (by show (a.add (i*4)).block<B;rw [zjb];exact hB)];exact h1
 ·rw [hb.cell (by show (a.add (i*4)).block<B;rw [zjb];exact hB)];exact h2
 ·rw [hb.cell (by show (a.add (i*4)).block<B;rw [zjb];exact hB)];exact h3
theorem zlc {B b:Nat} {bs:List Value} {W W':World} (h:Lib.IsBuilderF 96 5 B b bs W) (hb:Below W.heap.size W W'):Lib.IsBuilderF 96 5 B b bs W':=by
 have one:∀p,Lib.BuilderAtF 96 5 B b p bs W→Lib.BuilderAtF 96 5 B b p bs W':=fun p hp=>by
  have hlt:=hp.lt;obtain ⟨hB,v,hv,hown,hne⟩:=hp;exact ⟨hB,v,(hb.block b hlt).trans hv,hown.kept (row:=none) ⟨hb.os,hb.tape,hb.output,hb.size,fun k hk _=>hb.block k hk⟩ (Classical.em _),hne⟩
 exact h.elim (fun x=>.inl (one _ x)) (fun x=>.inr (one _ x))
theorem tab_below {B:Nat} {w w':World} (h:Lib.TabIs Tryz.prog w "internal/strconv.uint64pow10" .u64 Lib.pow10Tab) (hb:Below B w w') (hB:2<B):Lib.TabIs Tryz.prog w' "internal/strconv.uint64pow10" .u64 Lib.pow10Tab:=by
 unfold Lib.TabIs World.var? at *;have hg:Tryz.prog.globalNamed "internal/strconv.uint64pow10"=some 2:=by kernel_rfl
 rw [hg] at h ⊢;simp only [Option.bind_some] at h ⊢;rw [hb.block 2 hB];exact h
theorem alloc2 (w:World) (o1 o2:Obj):((w.alloc o1).alloc o2).heap[w.heap.size+1]?=some o2:=by
 have:=heap_alloc_new (w.alloc o1) o2
 rwa [show (w.alloc o1).heap.size=w.heap.size+1 by simp] at this
theorem keyN_snoc (l:List Int) (z:Int):zk3 (l++[z])=zk3 l++(Lib.itoa z++[32]):=by simp [zk3]
theorem keyS_snoc (l:List SItem) (x:SItem):keyS (l++[x])=keyS l++zk3 (zdc x):=by simp [keyS,zk3,zey]
theorem zrz {l:List Int} (h:∀z∈l,InR .i64 z):(zk3 l).length≤22*l.length:=by
 induction l with
 | nil=>simp [zk3]
 | cons z l ih=>
  have h1:=zi6.1 (h z (by simp));have h2:=Lib.itoa_length_le z h1.1 h1.2;have h3:=ih fun y hy=>h y (by simp [hy]);have e:zk3 (z::l)=(Lib.itoa z++[32])++zk3 l:=by simp [zk3]
  rw [e];simp only [List.length_append,List.length_cons,List.length_nil];omega
theorem numsS_len (l:List SItem):(zey l).length=4*l.length:=by
 induction l with
 | nil=>rfl
 | cons x l ih=>simp only [zey,List.flatMap_cons,List.length_append] at ih ⊢;rw [ih];simp [zdc];omega
set_option maxHeartbeats 4000000 in
set_option maxRecDepth 1000000 in
theorem key_walk (xs:List SItem) (a:Addr) (cap:Nat) (w:World) (hn:xs.length≤1000) (hz:∀x∈xs,∀z∈zdc x,InR .i64 z) (hc:zsl w a xs) (htab:Lib.TabIs Tryz.prog w "internal/strconv.uint64pow10" .u64 Lib.pow10Tab):
  Calls Tryz.prog 56 #[.slice (some a) xs.length cap] w fun e w'=>e = .returned (.string ⟨(keyS xs).toArray⟩)∧Below w.heap.size w w':=by
 have hpos:2<w.heap.size:=by
  have h:=htab;unfold Lib.TabIs World.var? at h;have hg:Tryz.prog.globalNamed "internal/strconv.uint64pow10"=some 2:=by kernel_rfl
  rw [hg] at h;simp only [Option.bind_some] at h;rcases Nat.lt_or_ge 2 w.heap.size with hh | hh
  ·exact hh
  ·rw [Array.getElem?_eq_none hh] at h;cases h
 have hlen:∀i,(keyS (xs.take i)).length≤88000:=fun i=>by
  have h1:=zrz (l:=zey (xs.take i)) fun z hzz=>by
   obtain ⟨x,hx,hzx⟩:=List.mem_flatMap.1 hzz;exact hz x (List.mem_of_mem_take hx) z hzx
  have h2:=numsS_len (xs.take i);have h3:(xs.take i).length≤xs.length:=by simp;omega
  show (zk3 (zey (xs.take i))).length≤_;omega
 go_enter Tryz.func56,Tryz.ntmps56
 go_wp2
 go_loopw [10] (fun v10 wr=>∃i:Nat,v10 = .int .i64 i∧i≤xs.length∧Lib.IsBuilderF 96 5 w.heap.size w.heap.size (Lib.byteCells (keyS (xs.take i))) wr∧Below w.heap.size w wr) (fun v10 _=>xs.length-(Lib.intOf v10).toNat)
 case atStart=>
  refine ⟨0,rfl,Nat.zero_le _,Lib.IsBuilderF.of (Lib.fresh_isBuilder 96 5 w),(Below.refl _ w).alloc (Nat.le_refl _) _⟩
 case round=>
  obtain ⟨i,rfl,hi,hB,hbw⟩:=hrel;obtain ⟨wo,hwo⟩:∃wo,wo=wr:=⟨wr,rfl⟩;subst hwo
  by_cases hlt:i<xs.length
  ·obtain ⟨x,hx⟩:∃x,xs[i]?=some x:=⟨xs[i],by simp [hlt]⟩;have hxm:x∈xs:=List.mem_of_getElem? hx;obtain ⟨c0,c1,c2,c3⟩:=hc.below hbw hc.1 hx;have hsz:=hbw.size;have hli:=hlen i
   go_wp2
   go_loopw [24] (fun v24 wi=>∃j:Nat,v24 = .int .i64 j∧j≤4∧Lib.IsBuilderF 96 5 w.heap.size w.heap.size (Lib.byteCells (keyS (xs.take i)++zk3 ((zdc x).take j))) wi∧wi.heap[wo.heap.size+1]?=some (.cells #[.int .i64 x.1,.int .i64 x.2.1,.int .i64 x.2.2.1,.int .i64 x.2.2.2] 3 (0,0))∧Below w.heap.size w wi) (fun v24 _=>4-(Lib.intOf v24).toNat)
   case atStart=>
    refine ⟨0,rfl,by omega, ?_, ?_, ?_⟩
    ·have:keyS (xs.take i)++zk3 ((zdc x).take 0)=keyS (xs.take i):=by simp [zk3]
     rw [this];exact (hB.alloc _).alloc _
    ·exact alloc2 wo _ _
    ·exact (hbw.alloc hsz _).alloc (by simp;omega) _
   case round=>
    obtain ⟨j,rfl,hj,hBi,hgi,hbi⟩:=hrel
    by_cases hjl:j<4
    ·obtain ⟨z,hzj⟩:∃z,(zdc x)[j]?=some z:=⟨(zdc x)[j]'(by simpa [zdc] using hjl),by simp [zdc,hjl]⟩;have hzr:=zi6.1 (hz x hxm z (List.mem_of_getElem? hzj));have hil:=Lib.itoa_length_le z hzr.1 hzr.2;have hll:(keyS (xs.take i)++zk3 ((zdc x).take j)).length≤88088:=by
      have h1:=zrz (l:=(zdc x).take j) fun y hy=>hz x hxm y (List.mem_of_mem_take hy);have h2:((zdc x).take j).length≤4:=by simp [zdc];omega
      rw [List.length_append];omega
     have hcell:wr.cell? ⟨wo.heap.size+1,j,none⟩=some (.int .i64 z):=by
      have e:(#[Value.int .i64 x.1,.int .i64 x.2.1,.int .i64 x.2.2.1,.int .i64 x.2.2.2]:Array Value)[j]?=((zdc x).map (Value.int .i64))[j]?:=by simp [zdc]
      rw [cell_of_row wr (wo.heap.size+1) _ _ 3 (0,0) hgi,e,List.getElem?_map,hzj];rfl
     have hszi:=hbi.size;have htk:keyS (xs.take i)++zk3 ((zdc x).take (j+1))=(keyS (xs.take i)++zk3 ((zdc x).take j))++(Lib.itoa z++[32]):=by
      rw [List.take_add_one,hzj,Option.toList_some,keyN_snoc,List.append_assoc]
     generalize hK:keyS (xs.take i)++zk3 ((zdc x).take j)=K at *
     go_wp2_with (go_at_call 93;refine (b_itoa z hzr.1 hzr.2 _ (tab_below htab hbi hpos)).mono ?_;rintro e w1 ⟨rfl,k,os,rfl⟩;refine Hid.out ?_)
     refine Lib.hid ?_;have hb1:Below wr.heap.size wr (Sort.grow (wr.drewN k) os):=Lib.below_grow _ wr (Nat.le_refl _) k os;generalize Sort.grow (wr.drewN k) os=W1 at *;have hB1:=zlc hBi hb1;have hgl:wo.heap.size+1<wr.heap.size:=(Array.getElem?_eq_some_iff.1 hgi).1;have hg1:=(hb1.block _ hgl).trans hgi;have hbi1:=hbi.trans (hb1.mono hszi);have hsz1:=hbi1.size
     go_wp2_with (go_at_call 69;refine (b_text w.heap.size w.heap.size _ ⟨(Lib.itoa z).toArray⟩ W1 hB1 (by rw [Lib.byteCells_length];show K.length+(Lib.itoa z).toArray.size≤_;simp;omega) hsz1).mono ?_;rintro e w2 ⟨rfl,h2,b2,k2⟩;refine Hid.out ?_)
     refine Lib.hid ?_;have hB2:Lib.IsBuilderF 96 5 w.heap.size w.heap.size (Lib.byteCells (K++Lib.itoa z)) w2:=by rw [Lib.byteCells_append];exact .inr h2
     have hg2:=k2 _ _ hg1 (by simp;omega) (by intro c fz he;cases he);have hsz2:=(hbi1.trans b2).size
     go_wp2_with (go_at_call 70;refine (b_byte w.heap.size w.heap.size _ 32 w2 hB2 (by rw [Lib.byteCells_length,List.length_append];omega) hsz2).mono ?_;rintro e w3 ⟨rfl,h3,b3,k3⟩;refine Hid.out ?_)
     refine Lib.hid ?_;have hB3:Lib.IsBuilderF 96 5 w.heap.size w.heap.size (Lib.byteCells (K++(Lib.itoa z++[32]))) w3:=by
      rw [← List.append_assoc,Lib.byteCells_append];exact .inr h3
     have hg3:=k3 _ _ hg2 (by simp;omega) (by intro c fz he;cases he);have hb3:=(hbi1.trans b2).trans b3
     go_wp2
     go_roundw
     case rel=>exact ⟨j+1,rfl,by omega,by rw [htk];exact hB3,hg3,hb3⟩
     case measure=>simp [Lib.intOf];omega
    ·have hj4:j=4:=by omega
     subst hj4
     go_wp2
     go_roundw
     case rel=>
      refine ⟨i+1,rfl,by omega, ?_,hbi⟩;have e:xs.take (i+1)=xs.take i++[x]:=by rw [List.take_add_one,hx];rfl
      rw [e,keyS_snoc];have e4:(zdc x).take 4=zdc x:=rfl;rw [e4] at hBi;exact hBi
     case measure=>simp [Lib.intOf];omega
  ·have hin:i=xs.length:=by omega
   subst hin
   go_wp2_with (go_at_call 71;refine (zm8 w.heap.size w.heap.size _ _ hB hbw.size).mono ?_)
   rintro e W1 ⟨rfl,_,b1,_⟩
   go_wp2
   go_ret
   exact ⟨by simp,hbw.trans b1⟩
set_option maxHeartbeats 4000000 in
set_option maxRecDepth 1000000 in
theorem key_none (ad:Option Addr) (cap:Nat) (w:World):Calls Tryz.prog 56 #[.slice ad 0 cap] w fun e w'=>e = .returned (.string ⟨#[]⟩)∧Below w.heap.size w w':=by
 go_enter Tryz.func56,Tryz.ntmps56
 go_wp2
 go_loopw [10] (fun v10 wr=>v10 = .int .i64 0∧Lib.IsBuilderF 96 5 w.heap.size w.heap.size (Lib.byteCells []) wr∧Below w.heap.size w wr) (fun _ _=>0)
 case atStart=>
  exact ⟨rfl,Lib.IsBuilderF.of (Lib.fresh_isBuilder 96 5 w),(Below.refl _ w).alloc (Nat.le_refl _) _⟩
 case round=>
  obtain ⟨rfl,hB,hbw⟩:=hrel
  go_wp2_with (go_at_call 71;refine (zm8 w.heap.size w.heap.size _ _ hB hbw.size).mono ?_)
  rintro e W1 ⟨rfl,_,b1,_⟩
  go_wp2
  go_ret
  exact ⟨rfl,hbw.trans b1⟩
theorem zr0 {w:World} {S:Nat→Prop} {v:Value} {xs:List SItem} (h:SlV En.SItem w S v xs) (hS:∀b,S b→b<w.heap.size) (hne:xs≠[]):∃a cap,v = .slice (some a) xs.length cap∧zsl w a xs∧∀x∈xs,∀z∈zdc x,InR .i64 z:=by
 obtain ⟨ad,cap,rfl,h1,h2,h3,h4⟩:=h;obtain ⟨b,off,css,rfl,hb,hE,hc⟩:=h4 hne;have key:∀(i:Nat) (x:SItem),xs[i]?=some x→∃p q r t:Int,x=(p,q,r,t)∧InR .i64 p∧InR .i64 q∧InR .i64 r∧InR .i64 t∧css[i]?=some [.int .i64 p,.int .i64 q,.int .i64 r,.int .i64 t]:=by
  intro i x hx;have hlt:i<xs.length:=(List.getElem?_eq_some_iff.1 hx).1;obtain ⟨cs,hcs⟩:∃cs,css[i]?=some cs:=⟨css[i]'(by rw [hE.1];exact hlt),by simp⟩;obtain ⟨c0,r0,rfl,⟨rfl,i0⟩,c1,r1,rfl,⟨rfl,i1⟩,c2,c3,rfl,⟨rfl,i2⟩,⟨rfl,i3⟩⟩:=hE.2 i cs x hcs hx;exact ⟨_,_,_,_,rfl,i0,i1,i2,i3,hcs⟩
 refine ⟨⟨b,off,none⟩,cap,rfl,⟨hS b hb,fun i x hx=>?_⟩,fun x hx z hz=>?_⟩
 ·obtain ⟨p,q,r,t,rfl,_,_,_,_,hcs⟩:=key i x hx;have hf:=fun (j:Nat) (u:Value) (hu:[Value.int .i64 p,.int .i64 q,.int .i64 r,.int .i64 t][j]?=some u)=>hc _ u (zg8 hE.lens hcs hu);have hsz:En.SItem.sz=4:=rfl;rw [hsz] at hf;rw [zd6];refine ⟨hf 0 _ rfl, ?_, ?_, ?_⟩
  ·have:=hf 1 _ rfl;rw [← Nat.add_assoc] at this;exact this
  ·have:=hf 2 _ rfl;rw [← Nat.add_assoc] at this;exact this
  ·have:=hf 3 _ rfl;rw [← Nat.add_assoc] at this;exact this
 ·obtain ⟨i,hi⟩:=List.getElem?_of_mem hx;obtain ⟨p,q,r,t,rfl,i0,i1,i2,i3,_⟩:=key i x hi;simp only [zdc,List.mem_cons,List.not_mem_nil,or_false] at hz;rcases hz with rfl | rfl | rfl | rfl <;> assumption
theorem zry {l:List SItem} (h:∀x∈l,∀z∈zdc x,InR .i64 z):(keyS l).length≤88*l.length:=by
 have h1:=zrz (l:=zey l) fun z hzz=>by
  obtain ⟨x,hx,hzx⟩:=List.mem_flatMap.1 hzz;exact h x hx z hzx
 have h2:=numsS_len l;show (zk3 (zey l)).length≤_;omega
theorem zie {s_:(List SItem)} {r_:Str} (h:zk5 s_ r_):Fn Tryz.prog 56 [(Pd.rep (En.slice En.SItem) s_)] (Rq (Pd.rep En.str r_)):=by
 obtain ⟨hn,rfl⟩:=h;refine ⟨ze6 Tryz.func56 rfl (by rfl),fun s vs hgl hv=>?_⟩
 match vs,hv with
 | [v],⟨hv,_⟩=>
  have hsl:=zbs.1 hv;have fin:∀(x:Str) (w':World),x.length≤9223372036854775807→Below s.w.heap.size s.w w'→∃(v:Value) (s':St),Ending.returned (.string ⟨x.toArray⟩) = .returned v∧s'.w=w'∧Ex s s'∧Rq (Pd.rep En.str x) s s' v:=fun x w' hx hb=>
   ⟨_,⟨w',s.X,fun b hb'=>Nat.lt_of_lt_of_le (s.lt b hb') hb.size⟩,rfl,rfl,⟨⟨DR.kit,hb.os,hb.tape,hb.output,hb.size,fun b hb' _=>hb.block b hb',fun _ h=>h.elim,fun b h=>.inl h⟩,fun b h=>h⟩,zh9.2 ⟨rfl,hx⟩⟩
  by_cases hne:s_=[]
  ·subst hne;obtain ⟨ad,cap,rfl,_⟩:=hsl;refine (key_none ad cap s.w).mono fun e w' ⟨he,hb⟩=>?_;subst he;exact fin [] w' (by simp) hb
  ·obtain ⟨a,cap,rfl,hat,hz⟩:=zr0 hsl (fun b hb=>hb.1) hne;have htab:Lib.TabIs Tryz.prog s.w "internal/strconv.uint64pow10" .u64 Lib.pow10Tab:=by
    obtain ⟨_,t,fr,h2⟩:=hgl.1 _ (by unfold gtab;exact List.mem_cons_self);unfold Lib.TabIs World.var?;have hg:Tryz.prog.globalNamed "internal/strconv.uint64pow10"=some 2:=by kernel_rfl
    rw [hg];simp only [Option.bind_some];rw [h2];simp [Lib.pow10Tab]
   have hl:=zry hz;refine (key_walk s_ a cap s.w hn hz hat htab).mono fun e w' ⟨he,hb⟩=>?_;subst he;exact fin _ w' (by omega) hb
theorem SlV.same {α:Type} {E:En α} {w w':World} {S:Nat→Prop} {v:Value} {xs:List α} (hs:Same S w w') (h:SlV E w S v xs):SlV E w' S v xs:=by
 have:=(En.slice E).move hs (cs:=[v]) (x:=xs) ⟨v,rfl,h⟩;obtain ⟨u,e,k⟩:=this;injection e with e1 e2;subst e1;exact k
theorem key_any (xs:List SItem) (v:Value) (w:World) (hn:xs.length≤1000) (hv:SlV En.SItem w (fun b=>b<w.heap.size) v xs) (htab:Lib.TabIs Tryz.prog w "internal/strconv.uint64pow10" .u64 Lib.pow10Tab):
  Calls Tryz.prog 56 #[v] w fun e w'=>e = .returned (.string ⟨(keyS xs).toArray⟩)∧Below w.heap.size w w':=by
 by_cases hne:xs=[]
 ·subst hne;obtain ⟨ad,cap,rfl,_⟩:=hv;exact key_none ad cap w
 ·obtain ⟨a,cap,rfl,hat,hz⟩:=zr0 hv (fun b hb=>hb) hne;exact key_walk xs a cap w hn hz hat htab
theorem keyL_snoc (l:List (List SItem)) (x:List SItem):zmp (l++[x])=zmp l++(keyS x++[47]):=by simp [zmp]
def StatesAt (w:World) (a:Addr) (l:List (List SItem)):Prop:=a.block<w.heap.size∧∀(i:Nat) (x:List SItem),l[i]?=some x→∃v,w.cell? (a.add i)=some v∧SlV En.SItem w (fun b=>b<w.heap.size) v x
theorem states_z {w:World} {S:Nat→Prop} {v:Value} {xs:List SItem} (h:SlV En.SItem w S v xs) (hS:∀b,S b→b<w.heap.size):∀x∈xs,∀z∈zdc x,InR .i64 z:=by
 by_cases hne:xs=[]
 ·subst hne;intro x hx;cases hx
 ·obtain ⟨_,_,_,_,hz⟩:=zr0 h hS hne;exact hz
theorem keyL_len {l:List (List SItem)} (h:∀s∈l,s.length≤1000∧∀x∈s,∀z∈zdc x,InR .i64 z):(zmp l).length≤88001*l.length:=by
 induction l with
 | nil=>simp [zmp]
 | cons s l ih=>
  have h1:=h s (by simp);have h2:=zry h1.2;have h3:=ih fun u hu=>h u (by simp [hu]);have e:zmp (s::l)=(keyS s++[47])++zmp l:=by simp [zmp]
  rw [e];simp only [List.length_append,List.length_cons,List.length_nil];omega
set_option maxHeartbeats 4000000 in
set_option maxRecDepth 1000000 in
theorem skey_walk (l:List (List SItem)) (a:Addr) (cap:Nat) (w:World) (hn:l.length≤1000000000) (hl:∀s∈l,s.length≤1000) (hc:StatesAt w a l) (htab:Lib.TabIs Tryz.prog w "internal/strconv.uint64pow10" .u64 Lib.pow10Tab):
  Calls Tryz.prog 35 #[.slice (some a) l.length cap] w fun e w'=>e = .returned (.string ⟨(zmp l).toArray⟩)∧Below w.heap.size w w':=by
 have hpos:2<w.heap.size:=by
  have h:=htab;unfold Lib.TabIs World.var? at h;have hg:Tryz.prog.globalNamed "internal/strconv.uint64pow10"=some 2:=by kernel_rfl
  rw [hg] at h;simp only [Option.bind_some] at h;rcases Nat.lt_or_ge 2 w.heap.size with hh | hh
  ·exact hh
  ·rw [Array.getElem?_eq_none hh] at h;cases h
 have hzz:∀s∈l,s.length≤1000∧∀x∈s,∀z∈zdc x,InR .i64 z:=fun s hs=>by
  obtain ⟨i,hi⟩:=List.getElem?_of_mem hs;obtain ⟨v,_,h2⟩:=hc.2 i s hi;exact ⟨hl s hs,states_z h2 fun b hb=>hb⟩
 have hlen:∀i,(zmp (l.take i)).length≤88001000000000:=fun i=>by
  have h1:=keyL_len (l:=l.take i) fun s hs=>hzz s (List.mem_of_mem_take hs);have h3:(l.take i).length≤l.length:=by simp;omega
  omega
 go_enter Tryz.func35,Tryz.ntmps35
 go_wp2
 go_loopw [8] (fun v8 wr=>∃i:Nat,v8 = .int .i64 i∧i≤l.length∧Lib.IsBuilderF 96 5 w.heap.size w.heap.size (Lib.byteCells (zmp (l.take i))) wr∧Below w.heap.size w wr) (fun v8 _=>l.length-(Lib.intOf v8).toNat)
 case atStart=>
  refine ⟨0,rfl,Nat.zero_le _,Lib.IsBuilderF.of (Lib.fresh_isBuilder 96 5 w),(Below.refl _ w).alloc (Nat.le_refl _) _⟩
 case round=>
  obtain ⟨i,rfl,hi,hB,hbw⟩:=hrel
  by_cases hlt:i<l.length
  ·obtain ⟨x,hx⟩:∃x,l[i]?=some x:=⟨l[i],by simp [hlt]⟩;have hxm:x∈l:=List.mem_of_getElem? hx;obtain ⟨v,c0,hsv⟩:=hc.2 i x hx;have c1:wr.cell? (a.add i)=some v:=by rw [hbw.cell (by rw [zjb];exact hc.1)];exact c0
   have hsz:=hbw.size;have hsv1:SlV En.SItem wr (fun b=>b<wr.heap.size) v x:=by
    have h1:=SlV.same (w':=wr) (fun b hb=>hbw.block b hb) hsv;obtain ⟨u,e,k⟩:=(En.slice En.SItem).mono (S':=fun b=>b<wr.heap.size) (fun b hb=>Nat.lt_of_lt_of_le hb hsz) (cs:=[v]) (x:=x) ⟨v,rfl,h1⟩;injection e with e1 e2;subst e1;exact k
   have hli:=hlen i;have hkl:=zry (hzz x hxm).2;have hx1000:=hl x hxm;have htk:zmp (l.take (i+1))=zmp (l.take i)++(keyS x++[47]):=by
    rw [List.take_add_one,hx,Option.toList_some,keyL_snoc]
   generalize hK:zmp (l.take i)=K at *
   go_wp2_with (go_at_call 56;refine (key_any x v _ hx1000 hsv1 (tab_below htab hbw hpos)).mono ?_;rintro e w1 ⟨rfl,hb1⟩;refine Hid.out ?_)
   refine Lib.hid ?_;have hB1:=zlc hB hb1;have hbw1:=hbw.trans (hb1.mono hsz);have hsz1:=hbw1.size
   go_wp2_with (go_at_call 69;refine (b_text w.heap.size w.heap.size _ ⟨(keyS x).toArray⟩ w1 hB1 (by rw [Lib.byteCells_length];show K.length+(keyS x).toArray.size≤_;simp;omega) hsz1).mono ?_;rintro e w2 ⟨rfl,h2,b2,k2⟩;refine Hid.out ?_)
   refine Lib.hid ?_;have hB2:Lib.IsBuilderF 96 5 w.heap.size w.heap.size (Lib.byteCells (K++keyS x)) w2:=by rw [Lib.byteCells_append];exact .inr h2
   have hsz2:=(hbw1.trans b2).size
   go_wp2_with (go_at_call 70;refine (b_byte w.heap.size w.heap.size _ 47 w2 hB2 (by rw [Lib.byteCells_length,List.length_append];omega) hsz2).mono ?_;rintro e w3 ⟨rfl,h3,b3,k3⟩;refine Hid.out ?_)
   refine Lib.hid ?_;have hB3:Lib.IsBuilderF 96 5 w.heap.size w.heap.size (Lib.byteCells (K++(keyS x++[47]))) w3:=by
    rw [← List.append_assoc,Lib.byteCells_append];exact .inr h3
   have hb3:=(hbw1.trans b2).trans b3
   go_wp2
   go_roundw
   case rel=>exact ⟨i+1,rfl,by omega,by rw [htk];exact hB3,hb3⟩
   case measure=>simp [Lib.intOf];omega
  ·have hin:i=l.length:=by omega
   subst hin
   go_wp2_with (go_at_call 71;refine (zm8 w.heap.size w.heap.size _ _ hB hbw.size).mono ?_)
   rintro e W1 ⟨rfl,_,b1,_⟩
   go_wp2
   go_ret
   exact ⟨by simp,hbw.trans b1⟩
set_option maxHeartbeats 4000000 in
set_option maxRecDepth 1000000 in
theorem skey_none (ad:Option Addr) (cap:Nat) (w:World):Calls Tryz.prog 35 #[.slice ad 0 cap] w fun e w'=>e = .returned (.string ⟨#[]⟩)∧Below w.heap.size w w':=by
 go_enter Tryz.func35,Tryz.ntmps35
 go_wp2
 go_loopw [8] (fun v8 wr=>v8 = .int .i64 0∧Lib.IsBuilderF 96 5 w.heap.size w.heap.size (Lib.byteCells []) wr∧Below w.heap.size w wr) (fun _ _=>0)
 case atStart=>
  exact ⟨rfl,Lib.IsBuilderF.of (Lib.fresh_isBuilder 96 5 w),(Below.refl _ w).alloc (Nat.le_refl _) _⟩
 case round=>
  obtain ⟨rfl,hB,hbw⟩:=hrel
  go_wp2_with (go_at_call 71;refine (zm8 w.heap.size w.heap.size _ _ hB hbw.size).mono ?_)
  rintro e W1 ⟨rfl,_,b1,_⟩
  go_wp2
  go_ret
  exact ⟨rfl,hbw.trans b1⟩
theorem sets_Key_ok {l_:(List (List SItem))} {r_:Str} (h:zg2 l_ r_):Fn Tryz.prog 35 [(Pd.rep (En.slice (En.slice En.SItem)) l_)] (Rq (Pd.rep En.str r_)):=by
 obtain ⟨hn,hl,rfl⟩:=h;refine ⟨ze6 Tryz.func35 rfl (by rfl),fun s vs hgl hv=>?_⟩
 match vs,hv with
 | [v],⟨hv,_⟩=>
  have hsl:=zbs.1 hv;have fin:∀(x:Str) (w':World),x.length≤9223372036854775807→Below s.w.heap.size s.w w'→∃(v:Value) (s':St),Ending.returned (.string ⟨x.toArray⟩) = .returned v∧s'.w=w'∧Ex s s'∧Rq (Pd.rep En.str x) s s' v:=fun x w' hx hb=>
   ⟨_,⟨w',s.X,fun b hb'=>Nat.lt_of_lt_of_le (s.lt b hb') hb.size⟩,rfl,rfl,⟨⟨DR.kit,hb.os,hb.tape,hb.output,hb.size,fun b hb' _=>hb.block b hb',fun _ h=>h.elim,fun b h=>.inl h⟩,fun b h=>h⟩,zh9.2 ⟨rfl,hx⟩⟩
  by_cases hne:l_=[]
  ·subst hne;obtain ⟨ad,cap,rfl,_⟩:=hsl;refine (skey_none ad cap s.w).mono fun e w' ⟨he,hb⟩=>?_;subst he;exact fin [] w' (by simp) hb
  ·obtain ⟨ad,cap,rfl,h1,h2,h3,h4⟩:=hsl;obtain ⟨b,off,css,rfl,hb,hE,hc⟩:=h4 hne;have hat:StatesAt s.w ⟨b,off,none⟩ l_:=by
    refine ⟨hb.1,fun i x hx=>?_⟩;have hlt:i<l_.length:=(List.getElem?_eq_some_iff.1 hx).1;obtain ⟨cs,hcs⟩:∃cs,css[i]?=some cs:=⟨css[i]'(by rw [hE.1];exact hlt),by simp⟩;obtain ⟨u,rfl,hu⟩:=hE.2 i cs x hcs hx;refine ⟨u, ?_, ?_⟩
    ·have:=hc _ u (zg8 hE.lens hcs (j:=0) rfl);have e1:(En.slice En.SItem).sz=1:=rfl;rw [e1,Nat.mul_one] at this;rw [zd6];exact this
    ·obtain ⟨u',e,k⟩:=(En.slice En.SItem).mono (S':=fun b=>b<s.w.heap.size) (fun b hb=>hb.1) (cs:=[u]) (x:=x) ⟨u,rfl,hu⟩;injection e with e1 e2;subst e1;exact k
   have htab:Lib.TabIs Tryz.prog s.w "internal/strconv.uint64pow10" .u64 Lib.pow10Tab:=by
    obtain ⟨_,t,fr,h2⟩:=hgl.1 _ (by unfold gtab;exact List.mem_cons_self);unfold Lib.TabIs World.var?;have hg:Tryz.prog.globalNamed "internal/strconv.uint64pow10"=some 2:=by kernel_rfl
    rw [hg];simp only [Option.bind_some];rw [h2];simp [Lib.pow10Tab]
   have hzz:∀s'∈l_,s'.length≤1000∧∀x∈s',∀z∈zdc x,InR .i64 z:=fun s' hs=>by
    obtain ⟨i,hi⟩:=List.getElem?_of_mem hs;obtain ⟨v,_,h2⟩:=hat.2 i s' hi;exact ⟨hl s' hs,states_z h2 fun b hb=>hb⟩
   have hll:=keyL_len hzz;refine (skey_walk l_ ⟨b,off,none⟩ cap s.w hn hl hat htab).mono fun e w' ⟨he,hb⟩=>?_;subst he;exact fin _ w' (by omega) hb
end Go.Proofs.YtahgmdbioafmbaaGreatDoor.V
namespace Go.Proofs.YtahgmdbioafmbaaGreatDoor.V
open Go
set_option linter.unusedVariables false
def Pd.zr (N te sz g len:Nat):Pd:=
 ⟨fun s v=>N≤g∧s.X g∧∃cap cur,v = .slice (some ⟨g,0,none⟩) len cap∧s.w.heap[g]?=some (.cells cur te (0,0))∧cur.size=cap*sz∧cap≤maxLen∧len≤cap,fun b=>some g=some b,
  fun {T s s' v} h hb ⟨h1,h2,cap,cur,h3,h4,h5⟩=>⟨h1,(hb g rfl).2 h2,cap,cur,h3,by rw [h.blk g (Array.getElem?_eq_some_iff.1 h4).1 (hb g rfl).1];exact h4,h5⟩⟩
section
variable {P : Program} {ops : Array Oper} {o : Oper} {L : Lst} {α : Type} {E : En α} {xs : List α}
theorem t_capn {y:Operand} {t te:TypeId} (hy:Opn L y (Pd.rep (En.nilv E) xs)) (ht:P.underlying t=some (.slice te)) (ho:o.op = .call { callee:=.builtin .cap,args:=#[y],argTypes:=#[t] }) (hg:o.guard=none):T P ops o L (Pd.rep (En.int .i64) 0):=
 T.pure hg fun M n s0 ac s hL=>by
  have hv:=(zg5.1 (hy M n s0 ac s hL)).1;refine ⟨.int .i64 0, ?_,zz.2 ⟨rfl,by decide⟩⟩;unfold execOp;rw [ho];simp [resolve,invoke,builtin,hv,Builtin.cap_,run_underlying ht,goInt]
theorem t_lenn {y:Operand} {t te:TypeId} (hy:Opn L y (Pd.rep (En.nilv E) xs)) (ht:P.underlying t=some (.slice te)) (ho:o.op = .call { callee:=.builtin .len,args:=#[y],argTypes:=#[t] }) (hg:o.guard=none):T P ops o L (Pd.rep (En.int .i64) 0):=
 T.pure hg fun M n s0 ac s hL=>by
  have hv:=(zg5.1 (hy M n s0 ac s hL)).1;refine ⟨.int .i64 0, ?_,zz.2 ⟨rfl,by decide⟩⟩;unfold execOp;rw [ho];simp [resolve,invoke,builtin,hv,Builtin.len_,run_underlying ht,goInt]
theorem t_to0 {y z:Operand} {t te:TypeId} (hy:Opn L y (Pd.rep (En.nilv E) xs)) (hz:Opn L z (Pd.rep (En.int .i64) 0)) (ht:P.underlying t=some (.slice te)) (hE:Ty P te E) (ho:o.op = .slice t y none (some z) none) (hg:o.guard=none):T P ops o L (Pd.rep (En.nilv E) xs):=
 T.pure hg fun M n s0 ac s hL=>by
  obtain ⟨hv,hxs⟩:=zg5.1 (hy M n s0 ac s hL);have hzv:=(zz.1 (hz M n s0 ac s hL)).1;refine ⟨.slice none 0 0, ?_,zg5.2 ⟨rfl,hxs⟩⟩;unfold execOp;rw [ho];simp [hv,hzv,Instr.sliceAt,run_underlying ht,Instr.slice,Instr.sliceBounds,Instr.sliceBound,asIntOf,zbg hE]
theorem st_zeros {Q:Exit→Act→World→Prop} {rest:List Oper} {M:Nat→Prop} {n:Nat} {s0:St} {a:Act} {s:St} {t u te:TypeId} {x y:Operand} {k:Int} (d:Nat) (hL:Has M n s0 a s L) (hx:Opn L x (Pd.rep (En.nilv E) xs)) (hy:Opn L y (Pd.rep (En.int .i64) k)) (hk0:0<k) (hk1:k≤2147483648)
  (ht:P.underlying t=some (.slice te)) (hu:P.underlying u=some (.int .i64)) (hE:Ty P te E) (ho:o.op = .call { callee:=.builtin .append,args:=#[x,y],argTypes:=#[t,u] }) (hg:o.guard=none) (hd:o.dst=some d) (hn:Nat.blt d n=true)
  (kk:∀a' s' g,Has M n s0 a' s' ((d,Pd.zr s0.w.heap.size te E.sz g k.toNat)::L)→wpList P ops Q rest a' s'.w):wpList P ops Q (o::rest) a s.w:=by
 obtain ⟨hv,_⟩:=zg5.1 (hx M n s0 a s hL);have hkv:=(zz.1 (hy M n s0 a s hL)).1;obtain ⟨i,z,hi,hsz,hz,hzs,hby⟩:=hE.info;obtain ⟨j,rfl⟩:∃j:Nat,k=(j:Int):=⟨k.toNat,by omega⟩;have hj:0<j:=by omega
 have hcap:j≤grownCap s.w j 0 te:=grownCap_ge _ _ _ _;have hr:(execOp a.eval o).run P s.w = .ok (.value (.slice (some ⟨s.w.heap.size,0,none⟩) j (grownCap s.w j 0 te))) (s.w.drew.alloc (.cells (Builtin.zeroCells z.cells j++Builtin.zeroCells z.cells (grownCap s.w j 0 te-j)) te)):=by
  unfold execOp;rw [ho];have h0:¬ ((j:Int)<0):=by omega
  have hw:IntKind.wrap .i64 (j:Int)=j:=zha (zi6.2 ⟨by omega,by omega⟩);have hb:j*i.bytes≤140737488355328:=by
   have:=Nat.mul_le_mul (show j≤2147483648 by omega) hby;omega
  have hb2:¬ ((281474976710656:Int)<(j:Int)*(i.bytes:Int)):=by
   rw [← Int.natCast_mul];omega
  have h48:¬ (281474976710656<Builtin.nextslicecap j 0*i.bytes):=by rw [nextslicecap_zero hj];omega
  have h63:¬ (9223372036854775807<(j:Int)):=by omega
  have hjn:¬ j=0:=by omega
  have hs0:¬ (j*E.sz=0):=by have:=Nat.mul_pos hj E.pos;omega
  simp [resolve,invoke,builtin,hv,hkv,Builtin.append_,run_underlying ht,run_underlying hu,sizeOf,typeInfo,zeroValue,hi,hz,asInt,asIntOf,h0,hw,hjn,hb2,h48,h63,hs0,hsz,Question.forced,newRow,grownCap,run_firstCells_none]
 refine wpList_plain hg fun K hK=>?_;unfold Oper.wp;rw [hr];refine hK _ _ ?_;simp only [hd];have e:Ex s ⟨(s.w.drew.alloc (.cells (Builtin.zeroCells z.cells j++Builtin.zeroCells z.cells (grownCap s.w j 0 te-j)) te)),fun b=>s.X b∨b=s.w.heap.size,fun b hb=>hb.elim (fun h=>Nat.lt_of_lt_of_le (s.lt b h) (by simp)) (fun h=>by subst h;simp)⟩:=
  ⟨⟨DR.succ rfl,rfl,rfl,rfl,by simp,fun b hb _=>Go.RowKit.Below.heap_alloc s.w.drew _ b hb,fun _ h=>h.elim,fun b hb=>hb.imp id (fun h=>Nat.le_of_eq h.symm)⟩,fun b hb=>.inl hb⟩
 refine kk _ _ s.w.heap.size (hL.put e hn ⟨hL.ent.mv.size,.inr rfl,grownCap s.w j 0 te,_,rfl,heap_alloc_new s.w.drew _, ?_,grownCap_le_maxLen _ _ _ _ (by unfold maxLen;omega),hcap⟩);simp only [Array.size_append,size_zeroCells,hzs];rw [← Nat.add_mul]
 congr 1
 omega
theorem t_row0 {t te:TypeId} {x z:Operand} {N g len:Nat} (hx:Opn L x (Pd.zr N te E.sz g len)) (hz:Opn L z (Pd.rep (En.int .i64) 0)) (ht:P.underlying t=some (.slice te)) (hE:Ty P te E) (ho:o.op = .slice t x none (some z) none) (hg:o.guard=none):T P ops o L (Pd.row E N te (some g) []):=
 T.pure hg fun M n s0 a s hL=>by
  obtain ⟨hN,hX,cap,cur,hv,hgb,hcs,hcm,hlc⟩:=hx M n s0 a s hL;have hzv:=(zz.1 (hz M n s0 a s hL)).1;refine ⟨.slice (some ⟨g,0,none⟩) 0 cap, ?_,rfl,fun b hb=>by cases hb;exact hX,Nat.zero_le _,[],⟨rfl,by simp⟩,by simp,.inr ⟨g,cap,cur,rfl,hN,hgb,Nat.zero_le _,hcm,hcs,by simp⟩⟩;unfold execOp;rw [ho];simp [hv,hzv,Instr.sliceAt,run_underlying ht,Instr.slice,Instr.sliceBounds,Instr.sliceBound,asIntOf,zbg hE,Addr.add]
end
set_option maxRecDepth 100000
theorem zff {x_:List SItem} {n_:Int} {r_:List SItem} (h:zdw x_ n_ r_):Fn Tryz.prog 145 [(Pd.rep (En.nilv En.SItem) x_),(Pd.rep (En.int .i64) n_)] (Ro En.SItem 77 r_):=by
 obtain ⟨h0,h1,rfl⟩:=h;refine zbo Tryz.func145 rfl Tryz.ntmps145 (by rfl) (by simp) fun s0 a hL=>?_;refine wp_seq_k fun K1 hK1=>?_;refine rg ?_;refine st 4 (zw (q:=Pd.any) (fun _ _ _ _ _ _=>trivial) rfl rfl) rfl rfl hL fun a s e_ hL=>?_;refine en' ?_;show K1 a s.w;refine hK1 _ _ ?_;refine wp_seq_k fun K2 hK2=>?_;refine wp_seq_k fun K3 hK3=>?_;refine rg ?_;refine st 5 (zn (o_t 1 rfl) rfl rfl) rfl rfl hL fun a s e_ hL=>?_;refine st 6 (zmm (o_t 5 rfl) (o_i (by decide)) rfl rfl) rfl rfl hL fun a s e_ hL=>?_;refine en' ?_;show K3 a s.w;refine hK3 _ _ ?_;refine cnd hL rfl (fun hb_=>absurd hb_ (by simp;omega)) (fun _=>?_);refine wp_skip ?_;show K2 a s.w;refine hK2 _ _ ?_;refine wp_seq_k fun K4 hK4=>?_;refine wp_seq_k fun K5 hK5=>?_;refine rg ?_;refine st 8 (zn (o_t 1 rfl) rfl rfl) rfl rfl hL fun a s e_ hL=>?_;refine st 9 (zn (o_t 0 rfl) rfl rfl) rfl rfl hL fun a s e_ hL=>?_;refine st 10 (t_capn (o_t 9 rfl) Tryz.underlying47 rfl rfl) rfl rfl hL fun a s e_ hL=>?_;refine st 11 (zn (o_t 0 rfl) rfl rfl) rfl rfl hL fun a s e_ hL=>?_;refine st 12 (t_lenn (o_t 11 rfl) Tryz.underlying47 rfl rfl) rfl rfl hL fun a s e_ hL=>?_;refine st 13 (zo6 (o_t 10 rfl) (o_t 12 rfl) (by decide) rfl rfl) rfl rfl hL fun a s e_ hL=>?_;refine st 14 (zo6 (o_t 8 rfl) (o_t 13 rfl) (zi6.2 ⟨by omega,by omega⟩) rfl rfl) rfl rfl hL fun a s e_ hL=>?_;refine st 1 (zw (o_t 14 rfl) rfl rfl) rfl rfl hL fun a s e_ hL=>?_;refine en' ?_;show K5 a s.w;refine hK5 _ _ ?_;refine wp_seq_k fun K6 hK6=>?_;refine rg ?_;refine st 15 (zn (o_t 1 rfl) rfl rfl) rfl rfl hL fun a s e_ hL=>?_
 refine st 16 (t_gtr (o_t 15 rfl) (o_i (by decide)) rfl rfl) rfl rfl hL fun a s e_ hL=>?_;refine en' ?_;show K6 a s.w;refine hK6 _ _ ?_;have fin:∀(a:Act) (s:St) (L:Lst) (og:Option Nat),Has N0 27 s0 a s L→lk L 0=some (Pd.row En.SItem s0.w.heap.size 77 og [])→K4 a s.w:=fun a s L og hL h0=>by
  refine hK4 _ _ ?_;refine wp_seq_k fun K7 hK7=>?_;refine rg ?_;refine st 26 (zn (o_t 0 h0) rfl rfl) rfl rfl hL fun a s e_ hL=>?_;refine st 4 (zw (o_t 26 rfl) rfl rfl) rfl rfl hL fun a s e_ hL=>?_;refine en' ?_;show K7 a s.w;refine hK7 _ _ ?_;exact wp_ret (zf4 rfl hL rfl)
 refine cnd hL rfl (fun hb_=>?_) (fun hb_=>?_)
 ·have hpos:0<n_-(0-0):=by simpa using hb_
  refine rg ?_;refine st 17 (zn (o_t 0 rfl) rfl rfl) rfl rfl hL fun a s e_ hL=>?_;refine st 18 (zn (o_t 0 rfl) rfl rfl) rfl rfl hL fun a s e_ hL=>?_;refine st 19 (t_capn (o_t 18 rfl) Tryz.underlying47 rfl rfl) rfl rfl hL fun a s e_ hL=>?_;refine st 20 (t_to0 (o_t 17 rfl) (o_t 19 rfl) Tryz.underlying47 zlm rfl rfl) rfl rfl hL fun a s e_ hL=>?_;refine st 21 (zn (o_t 1 rfl) rfl rfl) rfl rfl hL fun a s e_ hL=>?_;refine st_zeros 22 hL (o_t 20 rfl) (o_t 21 rfl) hpos (by omega) Tryz.underlying47 Tryz.underlying3 zlm rfl rfl rfl rfl fun a s g hL=>?_;refine st 23 (zn (o_t 0 rfl) rfl rfl) rfl rfl hL fun a s e_ hL=>?_;refine st 24 (t_lenn (o_t 23 rfl) Tryz.underlying47 rfl rfl) rfl rfl hL fun a s e_ hL=>?_;refine st 25 (t_row0 (o_t 22 rfl) (o_t 24 rfl) Tryz.underlying47 zlm rfl rfl) rfl rfl hL fun a s e_ hL=>?_;refine st 0 (zw (o_t 25 rfl) rfl rfl) rfl rfl hL fun a s e_ hL=>?_;refine en' ?_;exact fin a s _ (some g) hL rfl
 ·refine wp_skip ?_;have hv:=(zg5.1 (hL.get 0 rfl)).1;have hx:=(zg5.1 (hL.get 0 rfl)).2;have hL2:=hL.cons 0 (q:=Pd.row En.SItem s0.w.heap.size 77 none []) (by rw [hv];exact own_nil _ _ _ _);exact fin a s _ none hL2 rfl
end Go.Proofs.YtahgmdbioafmbaaGreatDoor.V
namespace Go.Proofs.YtahgmdbioafmbaaGreatDoor.V
open Go
set_option linter.unusedVariables false
def zg.j1 (r_:(List SItem)) (newslice8:(List SItem)):Prop:=r_=newslice8
def zg.l1 (slices_:(List (List SItem))) (X1:(List SItem)→Prop):Nat→(List SItem)→Int→Prop
 | 0,_,_=>False
 | k_0+1,newslice11,v13=>((decide (v13<(slices_.length:Int)))=true→∃e19:(List SItem),at? slices_ v13=some e19∧(newslice11.length+e19.length≤2147483648)∧(InR .i64 (v13+1))∧zg.l1 slices_ X1 k_0 (newslice11++e19) (v13+1))∧((decide (v13<(slices_.length:Int)))=false→X1 newslice11)
def zg.j2 (slices_:(List (List SItem))) (r_:(List SItem)) (size2:Int):Prop:=∃r4:(List SItem),zdw [] size2 r4∧∃k14,zg.l1 slices_ (zg.j1 r_) k14 r4 0
def zg.l2 (slices_:(List (List SItem))) (X2:Int→Prop):Nat→Int→Int→Prop
 | 0,_,_=>False
 | k_0+1,size24,v25=>((decide (v25<(slices_.length:Int)))=true→∃e31:(List SItem),at? slices_ v25=some e31∧(InR .i64 (size24+(e31.length:Int)))∧((decide (size24+(e31.length:Int)<0))=true→False)∧((decide (size24+(e31.length:Int)<0))=false→(InR .i64 (v25+1))∧zg.l2 slices_ X2 k_0 (size24+(e31.length:Int)) (v25+1)))∧((decide (v25<(slices_.length:Int)))=false→X2 size24)
def zg (slices_:(List (List SItem))) (r_:(List SItem)):Prop:=∃k26,zg.l2 slices_ (zg.j2 slices_ r_) k26 0 0
def zet (x_:Int) (r_:Bool):Prop:=r_=(x_ != x_)
def zcw (x_:Int) (y_:Int) (r_:Int):Prop:=∃r1:Bool,zet x_ r1∧∃r3:Bool,zet y_ r3∧((r1)=true→((r3)=true→r_=0)∧((r3)=false→r_=(-1)))∧((r1)=false→((r3)=true→r_=1)∧((r3)=false→((decide (x_<y_))=true→r_=(-1))∧((decide (x_<y_))=false→((decide (y_<x_))=true→r_=1)∧((decide (y_<x_))=false→r_=0))))
def ze.j1 (s1_:(List SItem)) (s2_:(List SItem)) (r_:Int):Prop:=((decide ((s1_.length:Int)<(s2_.length:Int)))=true→r_=(-1))∧((decide ((s1_.length:Int)<(s2_.length:Int)))=false→r_=0)
def ze.l1 (s1_:(List SItem)) (s2_:(List SItem)) (cmp_:(SItem × SItem × Int→Prop)) (r_:Int) (X1:Prop):Nat→Int→Prop
 | 0,_=>False
 | k_0+1,v4=>((decide (v4<(s1_.length:Int)))=true→∃e10:SItem,at? s1_ v4=some e10∧((decide ((s2_.length:Int)≤v4))=true→r_=1)∧((decide ((s2_.length:Int)≤v4))=false→∃e14:SItem,at? s2_ v4=some e14∧∃r18:Int,cmp_ (e10,e14,r18)∧(((r18 != 0))=true→r_=r18)∧(((r18 != 0))=false→(InR .i64 (v4+1))∧ze.l1 s1_ s2_ cmp_ r_ X1 k_0 (v4+1))))∧((decide (v4<(s1_.length:Int)))=false→X1)
def ze (s1_:(List SItem)) (s2_:(List SItem)) (cmp_:(SItem × SItem × Int→Prop)) (r_:Int):Prop:=∃k5,ze.l1 s1_ s2_ cmp_ r_ (ze.j1 s1_ s2_ r_) k5 0
def zcp.j1 (r_:Int):Prop:=r_=0
def zcp.l1 (vals_:(List Int)) (r_:Int) (X1:Prop):Nat→Int→Prop
 | 0,_=>False
 | k_0+1,v3=>((decide (v3<(vals_.length:Int)))=true→∃e9:Int,at? vals_ v3=some e9∧(((e9 != 0))=true→r_=e9)∧(((e9 != 0))=false→(InR .i64 (v3+1))∧zcp.l1 vals_ r_ X1 k_0 (v3+1)))∧((decide (v3<(vals_.length:Int)))=false→X1)
def zcp (vals_:(List Int)) (r_:Int):Prop:=∃k4,zcp.l1 vals_ r_ (zcp.j1 r_) k4 0
def zb0 (s_:(List SItem)) (r_:(List SItem)):Prop:=∀b2:Bool,(b2=true→s_=[])→((b2)=true→r_=([]:(List SItem)))∧((b2)=false→(([]:(List SItem)).length+s_.length≤2147483648)∧r_=([]:(List SItem))++s_)
def zk.j1 (r_:Int):Prop:=r_=(-1)
def zk.l1 (s_:(List (List SItem))) (f_:((List SItem) × Bool→Prop)) (r_:Int) (X1:Prop):Nat→Int→Prop
 | 0,_=>False
 | k_0+1,v3=>((decide (v3<(s_.length:Int)))=true→∃e9:(List SItem),at? s_ v3=some e9∧∃r11:Bool,f_ (e9,r11)∧((r11)=true→r_=v3)∧((r11)=false→(InR .i64 (v3+1))∧zk.l1 s_ f_ r_ X1 k_0 (v3+1)))∧((decide (v3<(s_.length:Int)))=false→X1)
def zk (s_:(List (List SItem))) (f_:((List SItem) × Bool→Prop)) (r_:Int):Prop:=∃k4,zk.l1 s_ f_ r_ (zk.j1 r_) k4 0
def zbn (s_:(List (List SItem))) (f_:((List SItem) × Bool→Prop)) (r_:Bool):Prop:=∃r1:Int,zk s_ f_ r1∧r_=decide (0≤r1)
def zd.j1 (r_:(List Cl)) (data2:(List Cl)):Prop:=r_=data2
def zd.j2 (L1_:(List Cl)→Int→Prop) (i5:Int) (data11:(List Cl)):Prop:=(InR .i64 (i5+1))∧L1_ data11 (i5+1)
def zd.l2 (a_:Int) (cmp_:(Cl × Cl × Int→Prop)) (X2:(List Cl)→Prop):Nat→(List Cl)→Int→Prop
 | 0,_,_=>False
 | k_0+1,data14,j15=>∃e20:Cl,(((decide (a_<j15))=true)→at? data14 j15=some e20)∧(((decide (a_<j15))=true)→InR .i64 (j15-1))∧∃e23:Cl,(((decide (a_<j15))=true)→at? data14 (j15-1)=some e23)∧∃r25:Int,(((decide (a_<j15))=true)→cmp_ (e20,e23,r25))∧((((decide (a_<j15))&&(decide (r25<0))))=true→(InR .i64 (j15-1))∧(InR .i64 (j15-1))∧∃e30:Cl,at? data14 (j15-1)=some e30∧∃e32:Cl,at? data14 j15=some e32∧∃e34:Cl,at? data14 j15=some e34∧∃e36:Cl,at? (data14.set (j15:Int).toNat e30) (j15-1)=some e36∧(InR .i64 (j15-1))∧zd.l2 a_ cmp_ X2 k_0 ((data14.set (j15:Int).toNat e30).set (j15-1:Int).toNat e32) (j15-1))∧((((decide (a_<j15))&&(decide (r25<0))))=false→X2 data14)
def zd.l1 (a_:Int) (b_:Int) (cmp_:(Cl × Cl × Int→Prop)) (X1:(List Cl)→Prop):Nat→(List Cl)→Int→Prop
 | 0,_,_=>False
 | k_0+1,data4,i5=>((decide (i5<b_))=true→∃k16,zd.l2 a_ cmp_ (zd.j2 (zd.l1 a_ b_ cmp_ X1 k_0) i5) k16 data4 i5)∧((decide (i5<b_))=false→X1 data4)
def zd (data_:(List Cl)) (a_:Int) (b_:Int) (cmp_:(Cl × Cl × Int→Prop)) (r_:(List Cl)):Prop:=(InR .i64 (a_+1))∧∃k6,zd.l1 a_ b_ cmp_ (zd.j1 r_) k6 data_ (a_+1)
def zi.j1 (r_:(List Cl)) (data1:(List Cl)):Prop:=r_=data1
def zi.l1 (a_:Int) (b_:Int) (nv_:Int) (X1:(List Cl)→Prop):Nat→(List Cl)→Int→Prop
 | 0,_,_=>False
 | k_0+1,data3,i4=>((decide (i4<nv_))=true→(InR .i64 (a_+i4))∧(InR .i64 (b_+i4))∧(InR .i64 (b_+i4))∧∃e13:Cl,at? data3 (b_+i4)=some e13∧(InR .i64 (a_+i4))∧∃e16:Cl,at? data3 (a_+i4)=some e16∧∃e18:Cl,at? data3 (a_+i4)=some e18∧∃e20:Cl,at? (data3.set (a_+i4:Int).toNat e13) (b_+i4)=some e20∧(InR .i64 (i4+1))∧zi.l1 a_ b_ nv_ X1 k_0 ((data3.set (a_+i4:Int).toNat e13).set (b_+i4:Int).toNat e16) (i4+1))∧((decide (i4<nv_))=false→X1 data3)
def zi (data_:(List Cl)) (a_:Int) (b_:Int) (nv_:Int) (cmp_:(Cl × Cl × Int→Prop)) (r_:(List Cl)):Prop:=∃k5,zi.l1 a_ b_ nv_ (zi.j1 r_) k5 data_ 0
def zm.j1 (m_:Int) (cmp_:(Cl × Cl × Int→Prop)) (r_:(List Cl)) (data4:(List Cl)) (i5:Int):Prop:=(InR .i64 (m_-i5))∧∃r8:(List Cl),zi data4 (m_-i5) m_ i5 cmp_ r8∧r_=r8
def zm.l1 (m_:Int) (cmp_:(Cl × Cl × Int→Prop)) (X1:(List Cl)→Int→Prop):Nat→(List Cl)→Int→Int→Prop
 | 0,_,_,_=>False
 | k_0+1,data10,i11,j12=>(((i11 != j12))=true→((decide (j12<i11))=true→(InR .i64 (m_-i11))∧∃r18:(List Cl),zi data10 (m_-i11) m_ j12 cmp_ r18∧(InR .i64 (i11-j12))∧zm.l1 m_ cmp_ X1 k_0 r18 (i11-j12) j12)∧((decide (j12<i11))=false→(InR .i64 (m_-i11))∧(InR .i64 (m_+j12))∧(InR .i64 ((m_+j12)-i11))∧∃r24:(List Cl),zi data10 (m_-i11) ((m_+j12)-i11) i11 cmp_ r24∧(InR .i64 (j12-i11))∧zm.l1 m_ cmp_ X1 k_0 r24 i11 (j12-i11)))∧(((i11 != j12))=false→X1 data10 i11)
def zm (data_:(List Cl)) (a_:Int) (m_:Int) (b_:Int) (cmp_:(Cl × Cl × Int→Prop)) (r_:(List Cl)):Prop:=(InR .i64 (m_-a_))∧(InR .i64 (b_-m_))∧∃k13,zm.l1 m_ cmp_ (zm.j1 m_ cmp_ r_) k13 data_ (m_-a_) (b_-m_)
def za.j1 (r_:(List Cl)) (data7:(List Cl)):Prop:=r_=data7
def za.l1 (i4:Int) (X1:(List Cl)→Prop):Nat→(List Cl)→Int→Prop
 | 0,_,_=>False
 | k_0+1,data9,k10=>(InR .i64 (i4-1))∧((decide (k10<i4-1))=true→(InR .i64 (k10+1))∧(InR .i64 (k10+1))∧∃e19:Cl,at? data9 (k10+1)=some e19∧∃e21:Cl,at? data9 k10=some e21∧∃e23:Cl,at? data9 k10=some e23∧∃e25:Cl,at? (data9.set (k10:Int).toNat e19) (k10+1)=some e25∧(InR .i64 (k10+1))∧za.l1 i4 X1 k_0 ((data9.set (k10:Int).toNat e19).set (k10+1:Int).toNat e21) (k10+1))∧((decide (k10<i4-1))=false→X1 data9)
def za.j2 (data_:(List Cl)) (a_:Int) (r_:(List Cl)) (i4:Int):Prop:=∃k11,za.l1 i4 (za.j1 r_) k11 data_ a_
def za.l2 (data_:(List Cl)) (a_:Int) (cmp_:(Cl × Cl × Int→Prop)) (X2:Int→Prop):Nat→Int→Int→Prop
 | 0,_,_=>False
 | k_0+1,i28,j29=>((decide (i28<j29))=true→(InR .i64 (i28+j29))∧∃i35:Int,i35=(IntKind.wrap .i64 (zp4 (IntKind.wrap .u64 (i28+j29)) 1))∧∃e37:Cl,at? data_ i35=some e37∧∃e39:Cl,at? data_ a_=some e39∧∃r41:Int,cmp_ (e37,e39,r41)∧((decide (r41<0))=true→(InR .i64 (i35+1))∧za.l2 data_ a_ cmp_ X2 k_0 (i35+1) j29)∧((decide (r41<0))=false→za.l2 data_ a_ cmp_ X2 k_0 i28 i35))∧((decide (i28<j29))=false→X2 i28)
def za.j3 (r_:(List Cl)) (data50:(List Cl)):Prop:=r_=data50
def za.l3 (i47:Int) (X3:(List Cl)→Prop):Nat→(List Cl)→Int→Prop
 | 0,_,_=>False
 | k_0+1,data52,k53=>((decide (i47<k53))=true→(InR .i64 (k53-1))∧(InR .i64 (k53-1))∧∃e61:Cl,at? data52 (k53-1)=some e61∧∃e63:Cl,at? data52 k53=some e63∧∃e65:Cl,at? data52 k53=some e65∧∃e67:Cl,at? (data52.set (k53:Int).toNat e61) (k53-1)=some e67∧(InR .i64 (k53-1))∧za.l3 i47 X3 k_0 ((data52.set (k53:Int).toNat e61).set (k53-1:Int).toNat e63) (k53-1))∧((decide (i47<k53))=false→X3 data52)
def za.j4 (data_:(List Cl)) (m_:Int) (r_:(List Cl)) (i47:Int):Prop:=∃k54,za.l3 i47 (za.j3 r_) k54 data_ m_
def za.l4 (data_:(List Cl)) (m_:Int) (cmp_:(Cl × Cl × Int→Prop)) (X4:Int→Prop):Nat→Int→Int→Prop
 | 0,_,_=>False
 | k_0+1,i70,j71=>((decide (i70<j71))=true→(InR .i64 (i70+j71))∧∃i77:Int,i77=(IntKind.wrap .i64 (zp4 (IntKind.wrap .u64 (i70+j71)) 1))∧∃e79:Cl,at? data_ m_=some e79∧∃e81:Cl,at? data_ i77=some e81∧∃r83:Int,cmp_ (e79,e81,r83)∧(((!(decide (r83<0))))=true→(InR .i64 (i77+1))∧za.l4 data_ m_ cmp_ X4 k_0 (i77+1) j71)∧(((!(decide (r83<0))))=false→za.l4 data_ m_ cmp_ X4 k_0 i70 i77))∧((decide (i70<j71))=false→X4 i70)
def za.j5 (n_:(List Cl)→Int→Int→Int→(Cl × Cl × Int→Prop)→(List Cl)→Prop) (m_:Int) (b_:Int) (cmp_:(Cl × Cl × Int→Prop)) (r_:(List Cl)) (i87:Int) (start96:Int) (data107:(List Cl)):Prop:=∃b109:Bool,b109=((decide (i87<(i87+m_)-start96))&&(decide ((i87+m_)-start96<b_)))∧((b109)=true→∃r111:(List Cl),n_ data107 i87 ((i87+m_)-start96) b_ cmp_ r111∧r_=r111)∧((b109)=false→r_=data107)
def za.j6 (n_:(List Cl)→Int→Int→Int→(Cl × Cl × Int→Prop)→(List Cl)→Prop) (a_:Int) (m_:Int) (b_:Int) (cmp_:(Cl × Cl × Int→Prop)) (r_:(List Cl)) (i87:Int) (start96:Int) (data102:(List Cl)):Prop:=∃b105:Bool,b105=((decide (a_<start96))&&(decide (start96<i87)))∧((b105)=true→∃r113:(List Cl),n_ data102 a_ start96 i87 cmp_ r113∧(za.j5 (n_) m_ b_ cmp_ r_ i87 start96) r113)∧((b105)=false→(za.j5 (n_) m_ b_ cmp_ r_ i87 start96) data102)
def za.j7 (n_:(List Cl)→Int→Int→Int→(Cl × Cl × Int→Prop)→(List Cl)→Prop) (data_:(List Cl)) (a_:Int) (m_:Int) (b_:Int) (cmp_:(Cl × Cl × Int→Prop)) (r_:(List Cl)) (i87:Int) (start96:Int):Prop:=(InR .i64 ((i87+m_)-start96))∧∃b100:Bool,b100=((decide (start96<m_))&&(decide (m_<(i87+m_)-start96)))∧((b100)=true→∃r115:(List Cl),zm data_ start96 m_ ((i87+m_)-start96) cmp_ r115∧(za.j6 (n_) a_ m_ b_ cmp_ r_ i87 start96) r115)∧((b100)=false→(za.j6 (n_) a_ m_ b_ cmp_ r_ i87 start96) data_)
def za.l5 (data_:(List Cl)) (m_:Int) (cmp_:(Cl × Cl × Int→Prop)) (i87:Int) (X5:Int→Prop):Nat→Int→Int→Prop
 | 0,_,_=>False
 | k_0+1,start117,r118=>((decide (start117<r118))=true→(InR .i64 (start117+r118))∧∃i124:Int,i124=(IntKind.wrap .i64 (zp4 (IntKind.wrap .u64 (start117+r118)) 1))∧(InR .i64 (((i87+m_)-1)-i124))∧∃e127:Cl,at? data_ (((i87+m_)-1)-i124)=some e127∧∃e129:Cl,at? data_ i124=some e129∧∃r131:Int,cmp_ (e127,e129,r131)∧(((!(decide (r131<0))))=true→(InR .i64 (i124+1))∧za.l5 data_ m_ cmp_ i87 X5 k_0 (i124+1) r118)∧(((!(decide (r131<0))))=false→za.l5 data_ m_ cmp_ i87 X5 k_0 start117 i124))∧((decide (start117<r118))=false→X5 start117)
def za.j8 (n_:(List Cl)→Int→Int→Int→(Cl × Cl × Int→Prop)→(List Cl)→Prop) (data_:(List Cl)) (a_:Int) (m_:Int) (b_:Int) (cmp_:(Cl × Cl × Int→Prop)) (r_:(List Cl)) (i87:Int) (start91:Int) (r92:Int):Prop:=(InR .i64 ((i87+m_)-1))∧∃k119,za.l5 data_ m_ cmp_ i87 (za.j7 (n_) data_ a_ m_ b_ cmp_ r_ i87) k119 start91 r92
def za.n:Nat→(List Cl)→Int→Int→Int→(Cl × Cl × Int→Prop)→(List Cl)→Prop
 | 0,_,_,_,_,_,_=>False
 | k_+1,data_,a_,m_,b_,cmp_,r_=>(InR .i64 (m_-a_))∧((((m_-a_)==1))=true→∃k30,za.l2 data_ a_ cmp_ (za.j2 data_ a_ r_) k30 m_ b_)∧((((m_-a_)==1))=false→(InR .i64 (b_-m_))∧((((b_-m_)==1))=true→∃k72,za.l4 data_ m_ cmp_ (za.j4 data_ m_ r_) k72 a_ m_)∧((((b_-m_)==1))=false→(InR .i64 (a_+b_))∧∃i87:Int,i87=(IntKind.wrap .i64 (zp4 (IntKind.wrap .u64 (a_+b_)) 1))∧(InR .i64 (i87+m_))∧((decide (i87<m_))=true→(InR .i64 ((i87+m_)-b_))∧(za.j8 (za.n k_) data_ a_ m_ b_ cmp_ r_ i87) ((i87+m_)-b_) i87)∧((decide (i87<m_))=false→(za.j8 (za.n k_) data_ a_ m_ b_ cmp_ r_ i87) a_ m_)))
def za (data_:(List Cl)) (a_:Int) (m_:Int) (b_:Int) (cmp_:(Cl × Cl × Int→Prop)) (r_:(List Cl)):Prop:=∃k_,za.n k_ data_ a_ m_ b_ cmp_ r_
def zb.j1 (r_:(List Cl)) (data7:(List Cl)):Prop:=r_=data7
def zb.j2 (L1_:(List Cl)→Int→Prop) (nv_:Int) (cmp_:(Cl × Cl × Int→Prop)) (blockSize10:Int) (data17:(List Cl)) (a18:Int):Prop:=(InR .i64 (a18+blockSize10))∧((decide (a18+blockSize10<nv_))=true→∃r22:(List Cl),za data17 a18 (a18+blockSize10) nv_ cmp_ r22∧(InR .i64 (blockSize10*2))∧L1_ r22 (blockSize10*2))∧((decide (a18+blockSize10<nv_))=false→(InR .i64 (blockSize10*2))∧L1_ data17 (blockSize10*2))
def zb.l2 (nv_:Int) (cmp_:(Cl × Cl × Int→Prop)) (blockSize10:Int) (X2:(List Cl)→Int→Prop):Nat→(List Cl)→Int→Int→Prop
 | 0,_,_,_=>False
 | k_0+1,data26,a27,b28=>((decide (b28≤nv_))=true→(InR .i64 (a27+blockSize10))∧∃r34:(List Cl),za data26 a27 (a27+blockSize10) b28 cmp_ r34∧(InR .i64 (2*blockSize10))∧(InR .i64 (b28+(2*blockSize10)))∧zb.l2 nv_ cmp_ blockSize10 X2 k_0 r34 b28 (b28+(2*blockSize10)))∧((decide (b28≤nv_))=false→X2 data26 a27)
def zb.l1 (nv_:Int) (cmp_:(Cl × Cl × Int→Prop)) (X1:(List Cl)→Prop):Nat→(List Cl)→Int→Prop
 | 0,_,_=>False
 | k_0+1,data9,blockSize10=>((decide (blockSize10<nv_))=true→(InR .i64 (2*blockSize10))∧∃k29,zb.l2 nv_ cmp_ blockSize10 (zb.j2 (zb.l1 nv_ cmp_ X1 k_0) nv_ cmp_ blockSize10) k29 data9 0 (2*blockSize10))∧((decide (blockSize10<nv_))=false→X1 data9)
def zb.j3 (nv_:Int) (cmp_:(Cl × Cl × Int→Prop)) (r_:(List Cl)) (data2:(List Cl)) (a3:Int):Prop:=∃r5:(List Cl),zd data2 a3 nv_ cmp_ r5∧∃k11,zb.l1 nv_ cmp_ (zb.j1 r_) k11 r5 20
def zb.l3 (nv_:Int) (cmp_:(Cl × Cl × Int→Prop)) (X3:(List Cl)→Int→Prop):Nat→(List Cl)→Int→Int→Prop
 | 0,_,_,_=>False
 | k_0+1,data38,a39,b40=>((decide (b40≤nv_))=true→∃r45:(List Cl),zd data38 a39 b40 cmp_ r45∧(InR .i64 (b40+20))∧zb.l3 nv_ cmp_ X3 k_0 r45 b40 (b40+20))∧((decide (b40≤nv_))=false→X3 data38 a39)
def zb (data_:(List Cl)) (nv_:Int) (cmp_:(Cl × Cl × Int→Prop)) (r_:(List Cl)):Prop:=∃k41,zb.l3 nv_ cmp_ (zb.j3 nv_ cmp_ r_) k41 data_ 0 20
def zbj (x_:(List Cl)) (cmp_:(Cl × Cl × Int→Prop)) (r_:(List Cl)):Prop:=∃r1:(List Cl),zb x_ (x_.length:Int) cmp_ r1∧r_=r1
def zt.j1 (r_:(List Int)) (s2:(List Int)):Prop:=r_=s2
def zt.l1 (X1:(List Int)→Prop):Nat→(List Int)→Int→Int→Prop
 | 0,_,_,_=>False
 | k_0+1,s4,i5,j6=>((decide (i5<j6))=true→∃e12:Int,at? s4 j6=some e12∧∃e14:Int,at? s4 i5=some e14∧∃e16:Int,at? s4 i5=some e16∧∃e18:Int,at? (s4.set (i5:Int).toNat e12) j6=some e18∧(InR .i64 (i5+1))∧(InR .i64 (j6-1))∧zt.l1 X1 k_0 ((s4.set (i5:Int).toNat e12).set (j6:Int).toNat e14) (i5+1) (j6-1))∧((decide (i5<j6))=false→X1 s4)
def zt (s_:(List Int)) (r_:(List Int)):Prop:=(InR .i64 ((s_.length:Int)-1))∧∃k7,zt.l1 (zt.j1 r_) k7 s_ 0 ((s_.length:Int)-1)
set_option maxRecDepth 100000
set_option maxHeartbeats 2000000
set_option synthInstance.maxSize 100000
set_option synthInstance.maxHeartbeats 200000
theorem zda {slices_:(List (List SItem))} {r_:(List SItem)} (h:zg slices_ r_):Fn Tryz.prog 119 [(Pd.rep (En.slice (En.slice En.SItem)) slices_)] (Ro En.SItem 77 r_):=by
 unfold zg at h;refine zbo Tryz.func119 J Tryz.ntmps119 (by rfl) (by simp) fun s0 a L=>?_;refine rs (sno En.SItem 77 L fun a s L=>?_);refine es (rA 1 L fun a s L=>?_);refine wp_seq_k fun K1 H1=>rA 3 L fun a s L=>?_;refine wp_block ?_;have J3:∀(size2:Int) (a:Act) (s:St),Has N0 36 s0 a s [(0,(Pd.rep (En.slice (En.slice En.SItem)) slices_)),(3,(Pi size2))]→((zg.j2 slices_ r_) size2)→K1 a s.w:=by
  intro size2 a s L h;unfold zg.j2 at h;show K1 a s.w;refine H1 _ _ ?_;obtain ⟨r4,h5,h⟩:=h;refine rs (sA 1 L fun a s L=>?_);refine zch 24 L (zff h5) opz J J J J fun a s og6 hg_ L=>?_;refine sA 1 L fun a s L=>?_;refine es (wp_seq_k fun K7 H7=>?_);refine rA 3 L fun a s L=>?_;refine wp_block ?_;have J10:∀(newslice8:(List SItem)) (og9:Option Nat) (a:Act) (s:St),Has N0 36 s0 a s [(6,(Pd.row En.SItem s0.w.heap.size 77 og9 newslice8))]→((zg.j1 r_) newslice8)→K7 a s.w:=by
   intro newslice8 og9 a s L h;unfold zg.j1 at h;show K7 a s.w;refine H7 _ _ (rA 2 L fun a s L=>?_);subst h;exact wp_ret (zf4 J L J)
  obtain ⟨k14,h⟩:=h;refine lpn (fun k15 a s=>∃(newslice11:(List SItem)) (v13:Int) (og12:Option Nat),Has N0 36 s0 a s [(6,(Pd.row En.SItem s0.w.heap.size 77 og12 newslice11)),(25,(Pd.rep (En.slice (En.slice En.SItem)) slices_)),(26,(Pi (slices_.length:Int))),(27,(Pi v13))]∧zg.l1 slices_ (zg.j1 r_) k15 newslice11 v13) k14 ⟨r4,0,og6,L.kk,h⟩ ?_;rintro k15 a s ⟨newslice11,v13,og12,L,h⟩ KL16 hKL16;unfold zg.l1 at h;refine rA 1 L fun a s L=>?_;refine wp_seq_k fun K17 H17=>cn L h (fun h=>?_) fun h=>?_
  ·refine wp_skip (H17 _ _ ?_);refine wp_seq_k fun K18 H18=>wp_block ?_;obtain ⟨e19,h20,h⟩:=h;refine ra 3 (p1 h20) L fun a s L=>?_;obtain ⟨h21,h⟩:=h;refine rg (sA 2 L fun a s L=>?_);refine zeb 33 L op op Ud.h Tq.h h21 J J J J ka fun a s og22 hg_ L=>?_;refine sA 1 L fun a s L=>?_;refine en' (H18 _ _ ?_);obtain ⟨h23,h⟩:=h;refine rg (sA 2 L fun a s L=>?_);refine en' ?_;exact hKL16 a s ⟨(newslice11++e19),(v13+1),og22,L.kk,h⟩
  ·refine wp_exit ?_;exact J10 newslice11 og12 a s (L.kk) h
 obtain ⟨k26,h⟩:=h;refine lpn (fun k27 a s=>∃(size24:Int) (v25:Int),Has N0 36 s0 a s [(0,(Pd.rep (En.slice (En.slice En.SItem)) slices_)),(3,(Pi size24)),(9,(Pd.rep (En.slice (En.slice En.SItem)) slices_)),(10,(Pi (slices_.length:Int))),(11,(Pi v25))]∧zg.l2 slices_ (zg.j2 slices_ r_) k27 size24 v25) k26 ⟨0,0,L.kk,h⟩ ?_;rintro k27 a s ⟨size24,v25,L,h⟩ KL28 hKL28;unfold zg.l2 at h;refine rA 1 L fun a s L=>?_;refine wp_seq_k fun K29 H29=>cn L h (fun h=>?_) fun h=>?_
 ·refine wp_skip (H29 _ _ ?_);refine wp_seq_k fun K30 H30=>wp_block ?_;obtain ⟨e31,h32,h⟩:=h;refine ra 3 (p1 h32) L fun a s L=>?_;obtain ⟨h33,h⟩:=h;refine rA 5 L fun a s L=>?_;refine rA 2 L fun a s L=>?_;refine cn L h (fun h=>?_) fun h=>?_
  ·exact h.elim
  ·refine wp_skip (H30 _ _ ?_);obtain ⟨h34,h⟩:=h;refine rg (sA 2 L fun a s L=>?_);refine en' ?_;exact hKL28 a s ⟨(size24+(e31.length:Int)),(v25+1),L.kk,h⟩
 ·refine wp_exit ?_;exact J3 size24 a s (L.kk) h
theorem zdd {s_:(List SItem)} {r_:(List SItem)} (h:zb0 s_ r_):Fn Tryz.prog 143 [(Pd.rep (En.slice En.SItem) s_)] (Ro En.SItem 77 r_):=by
 unfold zb0 at h;refine zbo Tryz.func143 J Tryz.ntmps143 (by rfl) (by simp) fun s0 a L=>?_;refine rs (sno En.SItem 77 L fun a s L=>?_);refine es (wp_seq_k fun K1 H1=>?_);refine rs (sA 1 L fun a s L=>?_);refine sv (t_isnil op Ud.h J J) L fun a s L=>?_;obtain ⟨b2,h3,L⟩:=L.nilq 4 rfl;replace h:=h b2 h3;refine es (cn L h (fun h=>?_) fun h=>?_)
 ·refine rs ?_;refine sno En.SItem 77 L fun a s L=>?_;refine es ?_;subst h;exact wp_ret (zf4 J L J)
 ·refine wp_skip (H1 _ _ ?_);obtain ⟨h5,h⟩:=h;refine rs (st_new En.SItem 5 L Ud.h Tq.h J J J J fun a s g4 hg_ L=>?_);refine sA 1 L fun a s L=>?_;refine zeb 7 L op op Ud.h Tq.h h5 J J J J ka fun a s og6 hg_ L=>?_;refine sA 1 L fun a s L=>?_;refine es ?_;subst h;exact wp_ret (zf4 J L J)
theorem zec {s_:(List (List SItem))} {f_:((List SItem) × Bool→Prop)} {r_:Int} (h:zk s_ f_ r_):Fn Tryz.prog 102 [(Pd.rep (En.slice (En.slice En.SItem)) s_),(Pd.rep EnF88 f_)] (Rq (Pi r_)):=by
 unfold zk at h;refine zbo Tryz.func102 J Tryz.ntmps102 (by rfl) (by simp) fun s0 a L=>?_;refine rA 1 L fun a s L=>?_;refine wp_seq_k fun K1 H1=>rA 3 L fun a s L=>?_;refine wp_block ?_;have J2:∀(a:Act) (s:St),Has N0 19 s0 a s []→((zk.j1 r_))→K1 a s.w:=by
  intro a s L h;unfold zk.j1 at h;show K1 a s.w;refine H1 _ _ (rA 1 L fun a s L=>?_);subst h;exact wp_ret (zdr J L J)
 obtain ⟨k4,h⟩:=h;refine lpn (fun k5 a s=>∃(v3:Int),Has N0 19 s0 a s [(0,(Pd.rep (En.slice (En.slice En.SItem)) s_)),(1,(Pd.rep EnF88 f_)),(7,(Pi (s_.length:Int))),(8,(Pi v3))]∧zk.l1 s_ f_ r_ (zk.j1 r_) k5 v3) k4 ⟨0,L.kk,h⟩ ?_;rintro k5 a s ⟨v3,L,h⟩ KL6 hKL6;unfold zk.l1 at h;refine rA 1 L fun a s L=>?_;refine wp_seq_k fun K7 H7=>cn L h (fun h=>?_) fun h=>?_
 ·refine wp_skip (H7 _ _ ?_);refine wp_seq_k fun K8 H8=>wp_block (rA 2 L fun a s L=>?_);obtain ⟨e9,h10,r11,h12,h⟩:=h;refine rs (sl 5 (p1 h10) L fun a s L=>?_);refine sv (zfj (q:=(e9,r11)) op h12 opz (fun _ _ _ h_=>h_) J J) L fun a s L=>?_;refine es (cn L h (fun h=>?_) fun h=>?_)
  ·refine rA 2 L fun a s L=>?_;subst h;exact wp_ret (zdr J L J)
  ·refine wp_skip (H8 _ _ ?_);obtain ⟨h13,h⟩:=h;refine rg (sA 2 L fun a s L=>?_);refine en' ?_;exact hKL6 a s ⟨(v3+1),L.kk,h⟩
 ·refine wp_exit ?_;exact J2 a s (L.kk) h
theorem zd3 {s_:(List (List SItem))} {f_:((List SItem) × Bool→Prop)} {r_:Bool} (h:zbn s_ f_ r_):Fn Tryz.prog 61 [(Pd.rep (En.slice (En.slice En.SItem)) s_),(Pd.rep EnF88 f_)] (Rq (Pd.rep En.bool r_)):=by
 unfold zbn at h;refine zbo Tryz.func61 J Tryz.ntmps61 (by rfl) (by simp) fun s0 a L=>?_;refine rA 1 L fun a s L=>?_;obtain ⟨r1,h2,h⟩:=h;refine ra 5 (p1 (zec h2)) L fun a s L=>?_;subst h;exact wp_ret (zdr J L J)
theorem zcr (v0:Value) {data_:(List Cl)} {a_:Int} {b_:Int} {cmp_:(Cl × Cl × Int→Prop)} {r_:(List Cl)} (h:zd data_ a_ b_ cmp_ r_):Fm Tryz.prog 185 (fun b=>v0.ownBlock=some b) [(Pd.prow En.cls 51 v0 data_),(Pi a_),(Pi b_),(Pd.rep EnF211 cmp_)] (fun _ s' _=>(Pd.prow En.cls 51 v0 r_).p s' v0):=by
 unfold zd at h;refine zpq Tryz.func185 J Tryz.ntmps185 (by rfl) (by simp) fun s0 a L=>?_;obtain ⟨h1,h⟩:=h;refine rA 3 L fun a s L=>?_;refine wp_block ?_;have J3:∀(data2:(List Cl)) (a:Act) (s:St),Has (fun b=>v0.ownBlock=some b) 53 s0 a s [(0,(Pd.prow En.cls 51 v0 data2))]→((zd.j1 r_) data2)→(bodyPost Tryz.prog Tryz.f185 (Pst (fun b=>v0.ownBlock=some b) (fun _ s' _=>(Pd.prow En.cls 51 v0 r_).p s' v0) s0) .normal) a s.w:=by
  intro data2 a s L h;unfold zd.j1 at h;subst h;exact retm J L (c:=0) J
 obtain ⟨k6,h⟩:=h;refine lpn (fun k7 a s=>∃(data4:(List Cl)) (i5:Int),Has (fun b=>v0.ownBlock=some b) 53 s0 a s [(0,(Pd.prow En.cls 51 v0 data4)),(1,(Pi a_)),(2,(Pi b_)),(3,(Pd.rep EnF211 cmp_)),(8,(Pi i5))]∧zd.l1 a_ b_ cmp_ (zd.j1 r_) k7 data4 i5) k6 ⟨data_,(a_+1),L.kk,h⟩ ?_;rintro k7 a s ⟨data4,i5,L,h⟩ KL8 hKL8;unfold zd.l1 at h;refine wp_seq_k fun K9 H9=>rA 3 L fun a s L=>?_;refine cn L h (fun h=>?_) fun h=>?_
 ·refine wp_skip (H9 _ _ ?_);refine wp_seq_k fun K10 H10=>wp_block (rA 2 L fun a s L=>?_);refine wp_block ?_;have J12:∀(data11:(List Cl)) (a:Act) (s:St),Has (fun b=>v0.ownBlock=some b) 53 s0 a s [(0,(Pd.prow En.cls 51 v0 data11)),(1,(Pi a_)),(2,(Pi b_)),(3,(Pd.rep EnF211 cmp_)),(8,(Pi i5))]→((zd.j2 (zd.l1 a_ b_ cmp_ (zd.j1 r_) k7) i5) data11)→K10 a s.w:=by
   intro data11 a s L h;unfold zd.j2 at h;show K10 a s.w;refine H10 _ _ ?_;obtain ⟨h13,h⟩:=h;refine rg (sA 3 L fun a s L=>?_);refine en' ?_;exact hKL8 a s ⟨data11,(i5+1),L.kk,h⟩
  obtain ⟨k16,h⟩:=h;refine lpn (fun k17 a s=>∃(data14:(List Cl)) (j15:Int),Has (fun b=>v0.ownBlock=some b) 53 s0 a s [(0,(Pd.prow En.cls 51 v0 data14)),(1,(Pi a_)),(2,(Pi b_)),(3,(Pd.rep EnF211 cmp_)),(8,(Pi i5)),(9,(Pi j15))]∧zd.l2 a_ cmp_ (zd.j2 (zd.l1 a_ b_ cmp_ (zd.j1 r_) k7) i5) k17 data14 j15) k16 ⟨data4,i5,L.kk,h⟩ ?_;rintro k17 a s ⟨data14,j15,L,h⟩ KL18 hKL18;unfold zd.l2 at h;refine wp_seq_k fun K19 H19=>?_;obtain ⟨e20,h21,h22,e23,h24,r25,h26,h⟩:=h;refine wp_seq (rda zdq 17 [(Pi j15),(Pi a_),(Pd.rep En.bool (decide (a_<j15))),(Pd.rep En.bool (decide (a_<j15))),(Pd.when ((decide (a_<j15))=true) (Pd.rep EnF211 cmp_)),(Pd.when ((decide (a_<j15))=true) (Pd.prow En.cls 51 v0 data14)),(Pd.when ((decide (a_<j15))=true) (Pi j15)),(Pd.when ((decide (a_<j15))=true) (Pd.optr En.cls 0 v0.ownBlock ((j15:Int).toNat*En.cls.sz) e20)),(Pd.when ((decide (a_<j15))=true) (Pd.rep En.cls e20)),(Pd.when ((decide (a_<j15))=true) (Pd.prow En.cls 51 v0 data14)),(Pd.when ((decide (a_<j15))=true) (Pi j15)),(Pd.when ((decide (a_<j15))=true) (Pi (j15-1))),(Pd.when ((decide (a_<j15))=true) (Pd.optr En.cls 0 v0.ownBlock ((j15-1:Int).toNat*En.cls.sz) e23)),(Pd.when ((decide (a_<j15))=true) (Pd.rep En.cls e23)),(Pd.when ((decide (a_<j15))=true) (Pi r25)),(Pd.when ((decide (a_<j15))=true) (Pd.rep En.bool (decide (r25<0)))),(Pd.rep En.bool ((decide (a_<j15))&&(decide (r25<0))))] L (by kernel_rfl) J J ?_ ?_)
  ·refine zbe.cons (zn (O 9 J) J J) ?_;refine zbe.cons (zn (O 1 J) J J) ?_;refine zbe.cons (t_gtr (O 18 J) (O 19 J) J J) ?_;refine zbe.cons (zn (O 20 J) J J) ?_;refine zbe.cons (t_g1 J J J (fun hc_=>zn (O 3 J) J J)) ?_;refine zbe.cons (t_g1 J J J (fun hc_=>zn (O 0 J) J J)) ?_;refine zbe.cons (t_g1 J J J (fun hc_=>zn (O 9 J) J J)) ?_;refine zbe.cons (t_g1 J J J (fun hc_=>zd7 (o_p (o_w hc_ 23 J)) (o_w hc_ 24 J) (h21 hc_) U36 zgi J J)) ?_;refine zbe.cons (t_g1 J J J (fun hc_=>zcn zgi (o_w hc_ 25 J) J J)) ?_;refine zbe.cons (t_g1 J J J (fun hc_=>zn (O 0 J) J J)) ?_;refine zbe.cons (t_g1 J J J (fun hc_=>zn (O 9 J) J J)) ?_;refine zbe.cons (t_g1 J J J (fun hc_=>zo6 (o_w hc_ 28 J) oI (h22 hc_) J J)) ?_;refine zbe.cons (t_g1 J J J (fun hc_=>zd7 (o_p (o_w hc_ 27 J)) (o_w hc_ 29 J) (h24 hc_) U36 zgi J J)) ?_;refine zbe.cons (t_g1 J J J (fun hc_=>zcn zgi (o_w hc_ 30 J) J J)) ?_;refine zbe.cons (t_g1 J J J (fun hc_=>zfj (q:=(e20,e23,r25)) (o_w hc_ 22 J) (h26 hc_) (xs:=[.tmp 26,.tmp 31]) (.cons (o_w hc_ 26 J) (.cons (o_w hc_ 31 J) .nil)) (fun _ _ _ h_=>h_) J J)) ?_;refine zbe.cons (t_g1 J J J (fun hc_=>zmm (o_w hc_ 32 J) oI J J)) ?_;refine zbe.cons (t_and (O 21 J) (fun hc2_=>(o_w hc2_ 33 J)) J J) ?_;exact zbe.nil
  intro a s _ L;replace L:=L.kk (L':=[(0,(Pd.prow En.cls 51 v0 data14)),(1,(Pi a_)),(2,(Pi b_)),(3,(Pd.rep EnF211 cmp_)),(8,(Pi i5)),(9,(Pi j15)),(34,(Pd.rep En.bool ((decide (a_<j15))&&(decide (r25<0)))))]);refine dp ?_;refine es (cn L h (fun h=>?_) fun h=>?_)
  ·refine wp_skip (H19 _ _ ?_);refine wp_seq_k fun K27 H27=>wp_block ?_;obtain ⟨h28,h29,e30,h31,e32,h33,e34,h35,e36,h37,h⟩:=h;refine rdf 18 zdq L (by kernel_rfl) fun s _ L=>?_;refine zei 2 39 L (by rfl) (by kernel_rfl) (by kernel_rfl) (by kernel_rfl) (fun _ _ _ _ h=>h) (q:=(Pd.prow En.cls 51 v0 data14)) (zii (O 0 J) J J) J J fun a L=>?_;refine zei 3 40 L (by rfl) (by kernel_rfl) (by kernel_rfl) (by kernel_rfl) (fun _ _ _ _ h=>h) (q:=(Pi j15)) (zii (O 9 J) J J) J J fun a L=>?_;refine zei 4 41 L (by rfl) (by kernel_rfl) (by kernel_rfl) (by kernel_rfl) (fun _ _ _ _ h=>h) (q:=(Pi (j15-1))) (y_sub (O 40 J) oI h28 J J) J J fun a L=>?_;refine fl_go 15 [(Pd.prow En.cls 51 v0 data14),(Pi j15),(Pd.prow En.cls 51 v0 data14),(Pi j15),(Pi (j15-1)),(Pd.prow En.cls 51 v0 data14),(Pi j15),(Pi (j15-1)),(Pd.optr En.cls 0 v0.ownBlock ((j15-1:Int).toNat*En.cls.sz) e30),(Pd.rep En.cls e30),(Pd.prow En.cls 51 v0 data14),(Pi j15),(Pd.optr En.cls 0 v0.ownBlock ((j15:Int).toNat*En.cls.sz) e32),(Pd.rep En.cls e32),(Pd.optr En.cls 0 v0.ownBlock ((j15:Int).toNat*En.cls.sz) e34)] [2,3,4] L (by kernel_rfl) (by kernel_rfl) (by kernel_rfl) (.cons (i:=2) J J J J (.cons (i:=3) J J J J (.cons (i:=4) J J J J .nil))) J J ?_ ?_
   ·refine zc7.cons (zn (O 0 J) J J) ?_;refine zc7.cons (zn (O 9 J) J J) ?_;refine zc7.skip J ?_;refine zc7.skip J ?_;refine zc7.skip J ?_;refine zc7.cons (zn (O 0 J) J J) ?_;refine zc7.cons (zn (O 9 J) J J) ?_;refine zc7.cons (zo6 (O 43 J) oI h29 J J) ?_;refine zc7.cons (zd7 (o_p (O 42 J)) (O 44 J) h31 U36 zgi J J) ?_;refine zc7.cons (zcn zgi (O 45 J) J J) ?_;refine zc7.cons (zn (O 0 J) J J) ?_;refine zc7.cons (zn (O 9 J) J J) ?_;refine zc7.cons (zd7 (o_p (O 47 J)) (O 48 J) h33 U36 zgi J J) ?_;refine zc7.cons (zcn zgi (O 49 J) J J) ?_;refine zc7.cons (zd7 (o_p (O 37 J)) (O 38 J) h35 U36 zgi J J) ?_;exact zc7.nil
   intro a s _ L;replace L:=L.kk (L':=[(0,(Pd.prow En.cls 51 v0 data14)),(1,(Pi a_)),(2,(Pi b_)),(3,(Pd.rep EnF211 cmp_)),(8,(Pi i5)),(9,(Pi j15)),(39,(Pd.prow En.cls 51 v0 data14)),(41,(Pi (j15-1))),(46,(Pd.rep En.cls e30)),(50,(Pd.rep En.cls e32)),(51,(Pd.optr En.cls 0 v0.ownBlock ((j15:Int).toNat*En.cls.sz) e34))]);refine dp ?_;refine zfq (off:=0) 0 (fun b h=>h) L J h35 op op (zp _ _ _) Tq.h J J J kw fun s L=>?_;refine sl 1 (p1 h37) L fun a s L=>?_;refine zfq (off:=0) 0 (fun b h=>h) L J h37 op op (zp _ _ _) Tq.h J J J kw fun s L=>?_;refine en' (H27 _ _ ?_);obtain ⟨h38,h⟩:=h;refine rg (sA 3 L fun a s L=>?_);refine en' ?_;exact hKL18 a s ⟨((data14.set (j15:Int).toNat e30).set (j15-1:Int).toNat e32),(j15-1),L.kk,h⟩
  ·refine wp_exit ?_;exact J12 data14 a s (L.kk) h
 ·refine wp_exit ?_;exact J3 data4 a s (L.kk) h
theorem zb8 (v0:Value) {data_:(List Cl)} {a_:Int} {b_:Int} {nv_:Int} {cmp_:(Cl × Cl × Int→Prop)} {r_:(List Cl)} (h:zi data_ a_ b_ nv_ cmp_ r_):Fm Tryz.prog 190 (fun b=>v0.ownBlock=some b) [(Pd.prow En.cls 51 v0 data_),(Pi a_),(Pi b_),(Pi nv_),(Pd.rep EnF211 cmp_)] (fun _ s' _=>(Pd.prow En.cls 51 v0 r_).p s' v0):=by
 unfold zi at h;refine zpq Tryz.func190 J Tryz.ntmps190 (by rfl) (by simp) fun s0 a L=>?_;refine rA 1 L fun a s L=>?_;refine wp_block ?_;have J2:∀(data1:(List Cl)) (a:Act) (s:St),Has (fun b=>v0.ownBlock=some b) 38 s0 a s [(0,(Pd.prow En.cls 51 v0 data1))]→((zi.j1 r_) data1)→(bodyPost Tryz.prog Tryz.f190 (Pst (fun b=>v0.ownBlock=some b) (fun _ s' _=>(Pd.prow En.cls 51 v0 r_).p s' v0) s0) .normal) a s.w:=by
  intro data1 a s L h;unfold zi.j1 at h;subst h;exact retm J L (c:=0) J
 obtain ⟨k5,h⟩:=h;refine lpn (fun k6 a s=>∃(data3:(List Cl)) (i4:Int),Has (fun b=>v0.ownBlock=some b) 38 s0 a s [(0,(Pd.prow En.cls 51 v0 data3)),(1,(Pi a_)),(2,(Pi b_)),(3,(Pi nv_)),(10,(Pi i4))]∧zi.l1 a_ b_ nv_ (zi.j1 r_) k6 data3 i4) k5 ⟨data_,0,L.kk,h⟩ ?_;rintro k6 a s ⟨data3,i4,L,h⟩ KL7 hKL7;unfold zi.l1 at h;refine wp_seq_k fun K8 H8=>rA 3 L fun a s L=>?_;refine cn L h (fun h=>?_) fun h=>?_
 ·refine wp_skip (H8 _ _ ?_);refine wp_seq_k fun K9 H9=>wp_block ?_;obtain ⟨h10,h11,h12,e13,h14,h15,e16,h17,e18,h19,e20,h21,h⟩:=h;refine rdf 24 zdq L (by kernel_rfl) fun s _ L=>?_;refine zei 4 20 L (by rfl) (by kernel_rfl) (by kernel_rfl) (by kernel_rfl) (fun _ _ _ _ h=>h) (q:=(Pd.prow En.cls 51 v0 data3)) (zii (O 0 J) J J) J J fun a L=>?_;refine zei 5 21 L (by rfl) (by kernel_rfl) (by kernel_rfl) (by kernel_rfl) (fun _ _ _ _ h=>h) (q:=(Pi b_)) (zii (O 2 J) J J) J J fun a L=>?_;refine zei 6 22 L (by rfl) (by kernel_rfl) (by kernel_rfl) (by kernel_rfl) (fun _ _ _ _ h=>h) (q:=(Pi i4)) (zii (O 10 J) J J) J J fun a L=>?_;refine zei 7 23 L (by rfl) (by kernel_rfl) (by kernel_rfl) (by kernel_rfl) (fun _ _ _ _ h=>h) (q:=(Pi (b_+i4))) (y_add (O 21 J) (O 22 J) h11 J J) J J fun a L=>?_;refine fl_go 21 [(Pd.prow En.cls 51 v0 data3),(Pi a_),(Pi i4),(Pi (a_+i4)),(Pd.prow En.cls 51 v0 data3),(Pi b_),(Pi i4),(Pi (b_+i4)),(Pd.prow En.cls 51 v0 data3),(Pi b_),(Pi i4),(Pi (b_+i4)),(Pd.optr En.cls 0 v0.ownBlock ((b_+i4:Int).toNat*En.cls.sz) e13),(Pd.rep En.cls e13),(Pd.prow En.cls 51 v0 data3),(Pi a_),(Pi i4),(Pi (a_+i4)),(Pd.optr En.cls 0 v0.ownBlock ((a_+i4:Int).toNat*En.cls.sz) e16),(Pd.rep En.cls e16),(Pd.optr En.cls 0 v0.ownBlock ((a_+i4:Int).toNat*En.cls.sz) e18)] [4,5,6,7] L (by kernel_rfl) (by kernel_rfl) (by kernel_rfl) (.cons (i:=4) J J J J (.cons (i:=5) J J J J (.cons (i:=6) J J J J (.cons (i:=7) J J J J .nil)))) J J ?_ ?_
  ·refine zc7.cons (zn (O 0 J) J J) ?_;refine zc7.cons (zn (O 1 J) J J) ?_;refine zc7.cons (zn (O 10 J) J J) ?_;refine zc7.cons (zo8 (O 17 J) (O 18 J) h10 J J) ?_;refine zc7.skip J ?_;refine zc7.skip J ?_;refine zc7.skip J ?_;refine zc7.skip J ?_;refine zc7.cons (zn (O 0 J) J J) ?_;refine zc7.cons (zn (O 2 J) J J) ?_;refine zc7.cons (zn (O 10 J) J J) ?_;refine zc7.cons (zo8 (O 25 J) (O 26 J) h12 J J) ?_;refine zc7.cons (zd7 (o_p (O 24 J)) (O 27 J) h14 U36 zgi J J) ?_;refine zc7.cons (zcn zgi (O 28 J) J J) ?_;refine zc7.cons (zn (O 0 J) J J) ?_;refine zc7.cons (zn (O 1 J) J J) ?_;refine zc7.cons (zn (O 10 J) J J) ?_;refine zc7.cons (zo8 (O 31 J) (O 32 J) h15 J J) ?_;refine zc7.cons (zd7 (o_p (O 30 J)) (O 33 J) h17 U36 zgi J J) ?_;refine zc7.cons (zcn zgi (O 34 J) J J) ?_;refine zc7.cons (zd7 (o_p (O 16 J)) (O 19 J) h19 U36 zgi J J) ?_;exact zc7.nil
  intro a s _ L;replace L:=L.kk (L':=[(0,(Pd.prow En.cls 51 v0 data3)),(1,(Pi a_)),(2,(Pi b_)),(3,(Pi nv_)),(10,(Pi i4)),(20,(Pd.prow En.cls 51 v0 data3)),(23,(Pi (b_+i4))),(29,(Pd.rep En.cls e13)),(35,(Pd.rep En.cls e16)),(36,(Pd.optr En.cls 0 v0.ownBlock ((a_+i4:Int).toNat*En.cls.sz) e18))]);refine dp ?_;refine zfq (off:=0) 0 (fun b h=>h) L J h19 op op (zp _ _ _) Tq.h J J J kw fun s L=>?_;refine sl 1 (p1 h21) L fun a s L=>?_;refine zfq (off:=0) 0 (fun b h=>h) L J h21 op op (zp _ _ _) Tq.h J J J kw fun s L=>?_;refine en' (H9 _ _ ?_);obtain ⟨h22,h⟩:=h;refine rg (sA 3 L fun a s L=>?_);refine en' ?_;exact hKL7 a s ⟨((data3.set (a_+i4:Int).toNat e13).set (b_+i4:Int).toNat e16),(i4+1),L.kk,h⟩
 ·refine wp_exit ?_;exact J2 data3 a s (L.kk) h
theorem zfe (v0:Value) {data_:(List Cl)} {a_:Int} {m_:Int} {b_:Int} {cmp_:(Cl × Cl × Int→Prop)} {r_:(List Cl)} (h:zm data_ a_ m_ b_ cmp_ r_):Fm Tryz.prog 189 (fun b=>v0.ownBlock=some b) [(Pd.prow En.cls 51 v0 data_),(Pi a_),(Pi m_),(Pi b_),(Pd.rep EnF211 cmp_)] (fun _ s' _=>(Pd.prow En.cls 51 v0 r_).p s' v0):=by
 unfold zm at h;refine zpq Tryz.func189 J Tryz.ntmps189 (by rfl) (by simp) fun s0 a L=>?_;obtain ⟨h1,h⟩:=h;refine rA 4 L fun a s L=>?_;obtain ⟨h2,h⟩:=h;refine rA 4 L fun a s L=>?_;refine wp_seq_k fun K3 H3=>wp_block ?_;have J6:∀(data4:(List Cl)) (i5:Int) (a:Act) (s:St),Has (fun b=>v0.ownBlock=some b) 58 s0 a s [(0,(Pd.prow En.cls 51 v0 data4)),(2,(Pi m_)),(4,(Pd.rep EnF211 cmp_)),(10,(Pi i5))]→((zm.j1 m_ cmp_ r_) data4 i5)→K3 a s.w:=by
  intro data4 i5 a s L h;unfold zm.j1 at h;show K3 a s.w;refine H3 _ _ ?_;obtain ⟨h7,r8,h9,h⟩:=h;refine rg (sA 7 L fun a s L=>?_);refine zfc 57 (fun v0=>zb8 v0 h9) L (fun b h=>h) op opz J J J J kw fun a s L=>?_;refine en' ?_;subst h;exact retm J L (c:=0) J
 obtain ⟨k13,h⟩:=h;refine lpn (fun k14 a s=>∃(data10:(List Cl)) (i11:Int) (j12:Int),Has (fun b=>v0.ownBlock=some b) 58 s0 a s [(0,(Pd.prow En.cls 51 v0 data10)),(2,(Pi m_)),(4,(Pd.rep EnF211 cmp_)),(10,(Pi i11)),(11,(Pi j12))]∧zm.l1 m_ cmp_ (zm.j1 m_ cmp_ r_) k14 data10 i11 j12) k13 ⟨data_,(m_-a_),(b_-m_),L.kk,h⟩ ?_;rintro k14 a s ⟨data10,i11,j12,L,h⟩ KL15 hKL15;unfold zm.l1 at h;refine wp_seq_k fun K16 H16=>rA 3 L fun a s L=>?_;refine cn L h (fun h=>?_) fun h=>?_
 ·refine wp_skip (H16 _ _ ?_);refine wp_block (rA 3 L fun a s L=>?_);refine cn L h (fun h=>?_) fun h=>?_
  ·obtain ⟨h17,r18,h19,h⟩:=h;refine rs (sA 7 L fun a s L=>?_);refine zfc 31 (fun v0=>zb8 v0 h19) L (fun b h=>h) op opz J J J J kw fun a s L=>?_;refine es ?_;obtain ⟨h20,h⟩:=h;refine rg (sA 4 L fun a s L=>?_);refine en' ?_;exact hKL15 a s ⟨r18,(i11-j12),j12,L.kk,h⟩
  ·obtain ⟨h21,h22,h23,r24,h25,h⟩:=h;refine rs (sA 11 L fun a s L=>?_);refine zfc 46 (fun v0=>zb8 v0 h25) L (fun b h=>h) op opz J J J J kw fun a s L=>?_;refine es ?_;obtain ⟨h26,h⟩:=h;refine rg (sA 4 L fun a s L=>?_);refine en' ?_;exact hKL15 a s ⟨r24,i11,(j12-i11),L.kk,h⟩
 ·refine wp_exit ?_;exact J6 data10 i11 a s (L.kk) h
theorem za.n_ok (k_:Nat):∀(v0:Value) {data_:(List Cl)} {a_:Int} {m_:Int} {b_:Int} {cmp_:(Cl × Cl × Int→Prop)} {r_:(List Cl)} (h:za.n k_ data_ a_ m_ b_ cmp_ r_),Fm Tryz.prog 186 (fun b=>v0.ownBlock=some b) [(Pd.prow En.cls 51 v0 data_),(Pi a_),(Pi m_),(Pi b_),(Pd.rep EnF211 cmp_)] (fun _ s' _=>(Pd.prow En.cls 51 v0 r_).p s' v0):=by
 induction k_ with
 | zero=>intro v0 data_ a_ m_ b_ cmp_ r_ h;exact h.elim
 | succ k_ ih_=>
 intro v0 data_ a_ m_ b_ cmp_ r_ h;unfold za.n at h;refine zpq Tryz.func186 J Tryz.ntmps186 (by rfl) (by simp) fun s0 a L=>?_;refine wp_seq_k fun K1 H1=>?_;obtain ⟨h2,h⟩:=h;refine rA 4 L fun a s L=>?_;refine cn L h (fun h=>?_) fun h=>?_
 ·refine rA 2 L fun a s L=>?_;refine rA 2 L fun a s L=>?_;refine wp_seq_k fun K3 H3=>wp_block ?_;have J5:∀(i4:Int) (a:Act) (s:St),Has (fun b=>v0.ownBlock=some b) 220 s0 a s [(0,(Pd.prow En.cls 51 v0 data_)),(1,(Pi a_)),(10,(Pi i4))]→((za.j2 data_ a_ r_) i4)→K3 a s.w:=by
   intro i4 a s L h;unfold za.j2 at h;show K3 a s.w;refine H3 _ _ (wp_seq_k fun K6 H6=>?_);refine rA 2 L fun a s L=>?_;refine wp_block ?_;have J8:∀(data7:(List Cl)) (a:Act) (s:St),Has (fun b=>v0.ownBlock=some b) 220 s0 a s [(0,(Pd.prow En.cls 51 v0 data7))]→((za.j1 r_) data7)→K6 a s.w:=by
    intro data7 a s L h;unfold za.j1 at h;show K6 a s.w;refine H6 _ _ ?_;subst h;exact wp_ret (retm J L (c:=0) J)
   obtain ⟨k11,h⟩:=h;refine lpn (fun k12 a s=>∃(data9:(List Cl)) (k10:Int),Has (fun b=>v0.ownBlock=some b) 220 s0 a s [(0,(Pd.prow En.cls 51 v0 data9)),(10,(Pi i4)),(13,(Pi k10))]∧za.l1 i4 (za.j1 r_) k12 data9 k10) k11 ⟨data_,a_,L.kk,h⟩ ?_;rintro k12 a s ⟨data9,k10,L,h⟩ KL13 hKL13;unfold za.l1 at h;refine wp_seq_k fun K14 H14=>?_;obtain ⟨h15,h⟩:=h;refine rA 4 L fun a s L=>?_;refine cn L h (fun h=>?_) fun h=>?_
   ·refine wp_skip (H14 _ _ ?_);refine wp_seq_k fun K16 H16=>wp_block ?_;obtain ⟨h17,h18,e19,h20,e21,h22,e23,h24,e25,h26,h⟩:=h;refine rdf 18 zdq L (by kernel_rfl) fun s _ L=>?_;refine zei 2 63 L (by rfl) (by kernel_rfl) (by kernel_rfl) (by kernel_rfl) (fun _ _ _ _ h=>h) (q:=(Pd.prow En.cls 51 v0 data9)) (zii (O 0 J) J J) J J fun a L=>?_;refine zei 3 64 L (by rfl) (by kernel_rfl) (by kernel_rfl) (by kernel_rfl) (fun _ _ _ _ h=>h) (q:=(Pi k10)) (zii (O 13 J) J J) J J fun a L=>?_;refine zei 4 65 L (by rfl) (by kernel_rfl) (by kernel_rfl) (by kernel_rfl) (fun _ _ _ _ h=>h) (q:=(Pi (k10+1))) (y_add (O 64 J) oI h17 J J) J J fun a L=>?_;refine fl_go 15 [(Pd.prow En.cls 51 v0 data9),(Pi k10),(Pd.prow En.cls 51 v0 data9),(Pi k10),(Pi (k10+1)),(Pd.prow En.cls 51 v0 data9),(Pi k10),(Pi (k10+1)),(Pd.optr En.cls 0 v0.ownBlock ((k10+1:Int).toNat*En.cls.sz) e19),(Pd.rep En.cls e19),(Pd.prow En.cls 51 v0 data9),(Pi k10),(Pd.optr En.cls 0 v0.ownBlock ((k10:Int).toNat*En.cls.sz) e21),(Pd.rep En.cls e21),(Pd.optr En.cls 0 v0.ownBlock ((k10:Int).toNat*En.cls.sz) e23)] [2,3,4] L (by kernel_rfl) (by kernel_rfl) (by kernel_rfl) (.cons (i:=2) J J J J (.cons (i:=3) J J J J (.cons (i:=4) J J J J .nil))) J J ?_ ?_
    ·refine zc7.cons (zn (O 0 J) J J) ?_;refine zc7.cons (zn (O 13 J) J J) ?_;refine zc7.skip J ?_;refine zc7.skip J ?_;refine zc7.skip J ?_;refine zc7.cons (zn (O 0 J) J J) ?_;refine zc7.cons (zn (O 13 J) J J) ?_;refine zc7.cons (zo8 (O 67 J) oI h18 J J) ?_;refine zc7.cons (zd7 (o_p (O 66 J)) (O 68 J) h20 U36 zgi J J) ?_;refine zc7.cons (zcn zgi (O 69 J) J J) ?_;refine zc7.cons (zn (O 0 J) J J) ?_;refine zc7.cons (zn (O 13 J) J J) ?_;refine zc7.cons (zd7 (o_p (O 71 J)) (O 72 J) h22 U36 zgi J J) ?_;refine zc7.cons (zcn zgi (O 73 J) J J) ?_;refine zc7.cons (zd7 (o_p (O 61 J)) (O 62 J) h24 U36 zgi J J) ?_;exact zc7.nil
    intro a s _ L;replace L:=L.kk (L':=[(0,(Pd.prow En.cls 51 v0 data9)),(10,(Pi i4)),(13,(Pi k10)),(63,(Pd.prow En.cls 51 v0 data9)),(65,(Pi (k10+1))),(70,(Pd.rep En.cls e19)),(74,(Pd.rep En.cls e21)),(75,(Pd.optr En.cls 0 v0.ownBlock ((k10:Int).toNat*En.cls.sz) e23))]);refine dp ?_;refine zfq (off:=0) 0 (fun b h=>h) L J h24 op op (zp _ _ _) Tq.h J J J kw fun s L=>?_;refine sl 1 (p1 h26) L fun a s L=>?_;refine zfq (off:=0) 0 (fun b h=>h) L J h26 op op (zp _ _ _) Tq.h J J J kw fun s L=>?_;refine en' (H16 _ _ ?_);obtain ⟨h27,h⟩:=h;refine rg (sA 3 L fun a s L=>?_);refine en' ?_;exact hKL13 a s ⟨((data9.set (k10:Int).toNat e19).set (k10+1:Int).toNat e21),(k10+1),L.kk,h⟩
   ·refine wp_exit ?_;exact J8 data9 a s (L.kk) h
  obtain ⟨k30,h⟩:=h;refine lpn (fun k31 a s=>∃(i28:Int) (j29:Int),Has (fun b=>v0.ownBlock=some b) 220 s0 a s [(0,(Pd.prow En.cls 51 v0 data_)),(1,(Pi a_)),(4,(Pd.rep EnF211 cmp_)),(10,(Pi i28)),(11,(Pi j29))]∧za.l2 data_ a_ cmp_ (za.j2 data_ a_ r_) k31 i28 j29) k30 ⟨m_,b_,L.kk,h⟩ ?_;rintro k31 a s ⟨i28,j29,L,h⟩ KL32 hKL32;unfold za.l2 at h;refine wp_seq_k fun K33 H33=>rA 3 L fun a s L=>?_;refine cn L h (fun h=>?_) fun h=>?_
  ·refine wp_skip (H33 _ _ ?_);refine wp_block ?_;obtain ⟨h34,i35,h36,h⟩:=h;refine ra 7 (p1 h36) L fun a s L=>?_;obtain ⟨e37,h38,e39,h40,r41,h42,h⟩:=h;refine wp_seq (rda zdq 11 [(Pd.rep EnF211 cmp_),(Pd.prow En.cls 51 v0 data_),(Pi i35),(Pd.optr En.cls 0 v0.ownBlock ((i35:Int).toNat*En.cls.sz) e37),(Pd.rep En.cls e37),(Pd.prow En.cls 51 v0 data_),(Pi a_),(Pd.optr En.cls 0 v0.ownBlock ((a_:Int).toNat*En.cls.sz) e39),(Pd.rep En.cls e39),(Pi r41),(Pd.rep En.bool (decide (r41<0)))] L (by kernel_rfl) J J ?_ ?_)
   ·refine zbe.cons (zn (O 4 J) J J) ?_;refine zbe.cons (zn (O 0 J) J J) ?_;refine zbe.cons (zn (O 12 J) J J) ?_;refine zbe.cons (zd7 (o_p (O 41 J)) (O 42 J) h38 U36 zgi J J) ?_;refine zbe.cons (zcn zgi (O 43 J) J J) ?_;refine zbe.cons (zn (O 0 J) J J) ?_;refine zbe.cons (zn (O 1 J) J J) ?_;refine zbe.cons (zd7 (o_p (O 45 J)) (O 46 J) h40 U36 zgi J J) ?_;refine zbe.cons (zcn zgi (O 47 J) J J) ?_;refine zbe.cons (zfj (q:=(e37,e39,r41)) (O 40 J) h42 (xs:=[.tmp 44,.tmp 48]) (.cons (O 44 J) (.cons (O 48 J) .nil)) (fun _ _ _ h_=>h_) J J) ?_;refine zbe.cons (zmm (O 49 J) oI J J) ?_;exact zbe.nil
   intro a s _ L;replace L:=L.kk (L':=[(0,(Pd.prow En.cls 51 v0 data_)),(1,(Pi a_)),(4,(Pd.rep EnF211 cmp_)),(10,(Pi i28)),(11,(Pi j29)),(12,(Pi i35)),(50,(Pd.rep En.bool (decide (r41<0))))]);refine dp ?_;refine es (cn L h (fun h=>?_) fun h=>?_)
   ·obtain ⟨h43,h⟩:=h;refine rg (sA 3 L fun a s L=>?_);refine en' ?_;exact hKL32 a s ⟨(i35+1),j29,L.kk,h⟩
   ·refine rg ?_;refine sA 2 L fun a s L=>?_;refine en' ?_;exact hKL32 a s ⟨i28,i35,L.kk,h⟩
  ·refine wp_exit ?_;exact J5 i28 a s (L.kk) h
 ·refine wp_skip (H1 _ _ ?_);refine wp_seq_k fun K44 H44=>?_;obtain ⟨h45,h⟩:=h;refine rA 4 L fun a s L=>?_;refine cn L h (fun h=>?_) fun h=>?_
  ·refine rA 2 L fun a s L=>?_;refine rA 2 L fun a s L=>?_;refine wp_seq_k fun K46 H46=>wp_block ?_;have J48:∀(i47:Int) (a:Act) (s:St),Has (fun b=>v0.ownBlock=some b) 220 s0 a s [(0,(Pd.prow En.cls 51 v0 data_)),(2,(Pi m_)),(14,(Pi i47))]→((za.j4 data_ m_ r_) i47)→K46 a s.w:=by
    intro i47 a s L h;unfold za.j4 at h;show K46 a s.w;refine H46 _ _ (wp_seq_k fun K49 H49=>?_);refine rA 2 L fun a s L=>?_;refine wp_block ?_;have J51:∀(data50:(List Cl)) (a:Act) (s:St),Has (fun b=>v0.ownBlock=some b) 220 s0 a s [(0,(Pd.prow En.cls 51 v0 data50))]→((za.j3 r_) data50)→K49 a s.w:=by
     intro data50 a s L h;unfold za.j3 at h;show K49 a s.w;refine H49 _ _ ?_;subst h;exact wp_ret (retm J L (c:=0) J)
    obtain ⟨k54,h⟩:=h;refine lpn (fun k55 a s=>∃(data52:(List Cl)) (k53:Int),Has (fun b=>v0.ownBlock=some b) 220 s0 a s [(0,(Pd.prow En.cls 51 v0 data52)),(14,(Pi i47)),(17,(Pi k53))]∧za.l3 i47 (za.j3 r_) k55 data52 k53) k54 ⟨data_,m_,L.kk,h⟩ ?_;rintro k55 a s ⟨data52,k53,L,h⟩ KL56 hKL56;unfold za.l3 at h;refine wp_seq_k fun K57 H57=>rA 3 L fun a s L=>?_;refine cn L h (fun h=>?_) fun h=>?_
    ·refine wp_skip (H57 _ _ ?_);refine wp_seq_k fun K58 H58=>wp_block ?_;obtain ⟨h59,h60,e61,h62,e63,h64,e65,h66,e67,h68,h⟩:=h;refine rdf 18 zdq L (by kernel_rfl) fun s _ L=>?_;refine zei 2 115 L (by rfl) (by kernel_rfl) (by kernel_rfl) (by kernel_rfl) (fun _ _ _ _ h=>h) (q:=(Pd.prow En.cls 51 v0 data52)) (zii (O 0 J) J J) J J fun a L=>?_;refine zei 3 116 L (by rfl) (by kernel_rfl) (by kernel_rfl) (by kernel_rfl) (fun _ _ _ _ h=>h) (q:=(Pi k53)) (zii (O 17 J) J J) J J fun a L=>?_;refine zei 4 117 L (by rfl) (by kernel_rfl) (by kernel_rfl) (by kernel_rfl) (fun _ _ _ _ h=>h) (q:=(Pi (k53-1))) (y_sub (O 116 J) oI h59 J J) J J fun a L=>?_;refine fl_go 15 [(Pd.prow En.cls 51 v0 data52),(Pi k53),(Pd.prow En.cls 51 v0 data52),(Pi k53),(Pi (k53-1)),(Pd.prow En.cls 51 v0 data52),(Pi k53),(Pi (k53-1)),(Pd.optr En.cls 0 v0.ownBlock ((k53-1:Int).toNat*En.cls.sz) e61),(Pd.rep En.cls e61),(Pd.prow En.cls 51 v0 data52),(Pi k53),(Pd.optr En.cls 0 v0.ownBlock ((k53:Int).toNat*En.cls.sz) e63),(Pd.rep En.cls e63),(Pd.optr En.cls 0 v0.ownBlock ((k53:Int).toNat*En.cls.sz) e65)] [2,3,4] L (by kernel_rfl) (by kernel_rfl) (by kernel_rfl) (.cons (i:=2) J J J J (.cons (i:=3) J J J J (.cons (i:=4) J J J J .nil))) J J ?_ ?_
     ·refine zc7.cons (zn (O 0 J) J J) ?_;refine zc7.cons (zn (O 17 J) J J) ?_;refine zc7.skip J ?_;refine zc7.skip J ?_;refine zc7.skip J ?_;refine zc7.cons (zn (O 0 J) J J) ?_;refine zc7.cons (zn (O 17 J) J J) ?_;refine zc7.cons (zo6 (O 119 J) oI h60 J J) ?_;refine zc7.cons (zd7 (o_p (O 118 J)) (O 120 J) h62 U36 zgi J J) ?_;refine zc7.cons (zcn zgi (O 121 J) J J) ?_;refine zc7.cons (zn (O 0 J) J J) ?_;refine zc7.cons (zn (O 17 J) J J) ?_;refine zc7.cons (zd7 (o_p (O 123 J)) (O 124 J) h64 U36 zgi J J) ?_;refine zc7.cons (zcn zgi (O 125 J) J J) ?_;refine zc7.cons (zd7 (o_p (O 113 J)) (O 114 J) h66 U36 zgi J J) ?_;exact zc7.nil
     intro a s _ L;replace L:=L.kk (L':=[(0,(Pd.prow En.cls 51 v0 data52)),(14,(Pi i47)),(17,(Pi k53)),(115,(Pd.prow En.cls 51 v0 data52)),(117,(Pi (k53-1))),(122,(Pd.rep En.cls e61)),(126,(Pd.rep En.cls e63)),(127,(Pd.optr En.cls 0 v0.ownBlock ((k53:Int).toNat*En.cls.sz) e65))]);refine dp ?_;refine zfq (off:=0) 0 (fun b h=>h) L J h66 op op (zp _ _ _) Tq.h J J J kw fun s L=>?_;refine sl 1 (p1 h68) L fun a s L=>?_;refine zfq (off:=0) 0 (fun b h=>h) L J h68 op op (zp _ _ _) Tq.h J J J kw fun s L=>?_;refine en' (H58 _ _ ?_);obtain ⟨h69,h⟩:=h;refine rg (sA 3 L fun a s L=>?_);refine en' ?_;exact hKL56 a s ⟨((data52.set (k53:Int).toNat e61).set (k53-1:Int).toNat e63),(k53-1),L.kk,h⟩
    ·refine wp_exit ?_;exact J51 data52 a s (L.kk) h
   obtain ⟨k72,h⟩:=h;refine lpn (fun k73 a s=>∃(i70:Int) (j71:Int),Has (fun b=>v0.ownBlock=some b) 220 s0 a s [(0,(Pd.prow En.cls 51 v0 data_)),(2,(Pi m_)),(4,(Pd.rep EnF211 cmp_)),(14,(Pi i70)),(15,(Pi j71))]∧za.l4 data_ m_ cmp_ (za.j4 data_ m_ r_) k73 i70 j71) k72 ⟨a_,m_,L.kk,h⟩ ?_;rintro k73 a s ⟨i70,j71,L,h⟩ KL74 hKL74;unfold za.l4 at h;refine wp_seq_k fun K75 H75=>rA 3 L fun a s L=>?_;refine cn L h (fun h=>?_) fun h=>?_
   ·refine wp_skip (H75 _ _ ?_);refine wp_block ?_;obtain ⟨h76,i77,h78,h⟩:=h;refine ra 7 (p1 h78) L fun a s L=>?_;obtain ⟨e79,h80,e81,h82,r83,h84,h⟩:=h;refine wp_seq (rda zdq 12 [(Pd.rep EnF211 cmp_),(Pd.prow En.cls 51 v0 data_),(Pi m_),(Pd.optr En.cls 0 v0.ownBlock ((m_:Int).toNat*En.cls.sz) e79),(Pd.rep En.cls e79),(Pd.prow En.cls 51 v0 data_),(Pi i77),(Pd.optr En.cls 0 v0.ownBlock ((i77:Int).toNat*En.cls.sz) e81),(Pd.rep En.cls e81),(Pi r83),(Pd.rep En.bool (decide (r83<0))),(Pd.rep En.bool (!(decide (r83<0))))] L (by kernel_rfl) J J ?_ ?_)
    ·refine zbe.cons (zn (O 4 J) J J) ?_;refine zbe.cons (zn (O 0 J) J J) ?_;refine zbe.cons (zn (O 2 J) J J) ?_;refine zbe.cons (zd7 (o_p (O 93 J)) (O 94 J) h80 U36 zgi J J) ?_;refine zbe.cons (zcn zgi (O 95 J) J J) ?_;refine zbe.cons (zn (O 0 J) J J) ?_;refine zbe.cons (zn (O 16 J) J J) ?_;refine zbe.cons (zd7 (o_p (O 97 J)) (O 98 J) h82 U36 zgi J J) ?_;refine zbe.cons (zcn zgi (O 99 J) J J) ?_;refine zbe.cons (zfj (q:=(e79,e81,r83)) (O 92 J) h84 (xs:=[.tmp 96,.tmp 100]) (.cons (O 96 J) (.cons (O 100 J) .nil)) (fun _ _ _ h_=>h_) J J) ?_;refine zbe.cons (zmm (O 101 J) oI J J) ?_;refine zbe.cons (t_not (O 102 J) J J) ?_;exact zbe.nil
    intro a s _ L;replace L:=L.kk (L':=[(0,(Pd.prow En.cls 51 v0 data_)),(2,(Pi m_)),(4,(Pd.rep EnF211 cmp_)),(14,(Pi i70)),(15,(Pi j71)),(16,(Pi i77)),(103,(Pd.rep En.bool (!(decide (r83<0)))))]);refine dp ?_;refine es (cn L h (fun h=>?_) fun h=>?_)
    ·obtain ⟨h85,h⟩:=h;refine rg (sA 3 L fun a s L=>?_);refine en' ?_;exact hKL74 a s ⟨(i77+1),j71,L.kk,h⟩
    ·refine rg ?_;refine sA 2 L fun a s L=>?_;refine en' ?_;exact hKL74 a s ⟨i70,i77,L.kk,h⟩
   ·refine wp_exit ?_;exact J48 i70 a s (L.kk) h
  ·refine wp_skip (H44 _ _ ?_);obtain ⟨h86,i87,h88,h⟩:=h;refine ra 7 (p1 h88) L fun a s L=>?_;obtain ⟨h89,h⟩:=h;refine rA 4 L fun a s L=>?_;refine rA 2 L fun a s L=>?_;refine wp_seq_k fun K90 H90=>rA 3 L fun a s L=>?_;have J93:∀(start91:Int) (r92:Int) (a:Act) (s:St),Has (fun b=>v0.ownBlock=some b) 220 s0 a s [(0,(Pd.prow En.cls 51 v0 data_)),(1,(Pi a_)),(2,(Pi m_)),(3,(Pi b_)),(4,(Pd.rep EnF211 cmp_)),(18,(Pi i87)),(19,(Pi (i87+m_))),(20,(Pi start91)),(21,(Pi r92))]→((za.j8 (za.n k_) data_ a_ m_ b_ cmp_ r_ i87) start91 r92)→K90 a s.w:=by
    intro start91 r92 a s L h;unfold za.j8 at h;show K90 a s.w;refine H90 _ _ ?_;obtain ⟨h94,h⟩:=h;refine rA 3 L fun a s L=>?_;refine wp_seq_k fun K95 H95=>wp_block ?_;have J97:∀(start96:Int) (a:Act) (s:St),Has (fun b=>v0.ownBlock=some b) 220 s0 a s [(0,(Pd.prow En.cls 51 v0 data_)),(1,(Pi a_)),(2,(Pi m_)),(3,(Pi b_)),(4,(Pd.rep EnF211 cmp_)),(18,(Pi i87)),(19,(Pi (i87+m_))),(20,(Pi start96))]→((za.j7 (za.n k_) data_ a_ m_ b_ cmp_ r_ i87) start96)→K95 a s.w:=by
     intro start96 a s L h;unfold za.j7 at h;show K95 a s.w;refine H95 _ _ ?_;obtain ⟨h98,h⟩:=h;refine rA 4 L fun a s L=>?_;refine wp_seq_k fun K99 H99=>?_;obtain ⟨b100,h101,h⟩:=h;refine ra 8 (p1 h101) L fun a s L=>?_;have J103:∀(data102:(List Cl)) (a:Act) (s:St),Has (fun b=>v0.ownBlock=some b) 220 s0 a s [(0,(Pd.prow En.cls 51 v0 data102)),(1,(Pi a_)),(3,(Pi b_)),(4,(Pd.rep EnF211 cmp_)),(18,(Pi i87)),(20,(Pi start96)),(24,(Pi ((i87+m_)-start96)))]→((za.j6 (za.n k_) a_ m_ b_ cmp_ r_ i87 start96) data102)→K99 a s.w:=by
      intro data102 a s L h;unfold za.j6 at h;show K99 a s.w;refine H99 _ _ (wp_seq_k fun K104 H104=>?_);obtain ⟨b105,h106,h⟩:=h;refine ra 8 (p1 h106) L fun a s L=>?_;have J108:∀(data107:(List Cl)) (a:Act) (s:St),Has (fun b=>v0.ownBlock=some b) 220 s0 a s [(0,(Pd.prow En.cls 51 v0 data107)),(3,(Pi b_)),(4,(Pd.rep EnF211 cmp_)),(18,(Pi i87)),(24,(Pi ((i87+m_)-start96)))]→((za.j5 (za.n k_) m_ b_ cmp_ r_ i87 start96) data107)→K104 a s.w:=by
       intro data107 a s L h;unfold za.j5 at h;show K104 a s.w;refine H104 _ _ ?_;obtain ⟨b109,h110,h⟩:=h;refine ra 8 (p1 h110) L fun a s L=>?_;refine cn L h (fun h=>?_) fun h=>?_
       ·obtain ⟨r111,h112,h⟩:=h;refine rg (sA 5 L fun a s L=>?_);refine zfc 219 (fun v0=>ih_ v0 h112) L (fun b h=>h) op opz J J J J kw fun a s L=>?_;refine en' ?_;subst h;exact retm J L (c:=0) J
       ·refine wp_skip ?_;subst h;exact retm J L (c:=0) J
      refine cn L h (fun h=>?_) fun h=>?_
      ·obtain ⟨r113,h114,h⟩:=h;refine rg (sA 5 L fun a s L=>?_);refine zfc 205 (fun v0=>ih_ v0 h114) L (fun b h=>h) op opz J J J J kw fun a s L=>?_;refine en' ?_;exact J108 r113 a s (L.kk) h
      ·refine wp_skip ?_;exact J108 data102 a s (L.kk) h
     refine cn L h (fun h=>?_) fun h=>?_
     ·obtain ⟨r115,h116,h⟩:=h;refine rg (sA 5 L fun a s L=>?_);refine zfc 191 (fun v0=>zfe v0 h116) L (fun b h=>h) op opz J J J J kw fun a s L=>?_;refine en' ?_;exact J103 r115 a s (L.kk) h
     ·refine wp_skip ?_;exact J103 data_ a s (L.kk) h
    obtain ⟨k119,h⟩:=h;refine lpn (fun k120 a s=>∃(start117:Int) (r118:Int),Has (fun b=>v0.ownBlock=some b) 220 s0 a s [(0,(Pd.prow En.cls 51 v0 data_)),(1,(Pi a_)),(2,(Pi m_)),(3,(Pi b_)),(4,(Pd.rep EnF211 cmp_)),(18,(Pi i87)),(19,(Pi (i87+m_))),(20,(Pi start117)),(21,(Pi r118)),(22,(Pi ((i87+m_)-1)))]∧za.l5 data_ m_ cmp_ i87 (za.j7 (za.n k_) data_ a_ m_ b_ cmp_ r_ i87) k120 start117 r118) k119 ⟨start91,r92,L.kk,h⟩ ?_;rintro k120 a s ⟨start117,r118,L,h⟩ KL121 hKL121;unfold za.l5 at h;refine wp_seq_k fun K122 H122=>rA 3 L fun a s L=>?_;refine cn L h (fun h=>?_) fun h=>?_
    ·refine wp_skip (H122 _ _ ?_);refine wp_block ?_;obtain ⟨h123,i124,h125,h⟩:=h;refine ra 7 (p1 h125) L fun a s L=>?_;obtain ⟨h126,e127,h128,e129,h130,r131,h132,h⟩:=h;refine wp_seq (rda zdq 14 [(Pd.rep EnF211 cmp_),(Pd.prow En.cls 51 v0 data_),(Pi ((i87+m_)-1)),(Pi i124),(Pi (((i87+m_)-1)-i124)),(Pd.optr En.cls 0 v0.ownBlock ((((i87+m_)-1)-i124:Int).toNat*En.cls.sz) e127),(Pd.rep En.cls e127),(Pd.prow En.cls 51 v0 data_),(Pi i124),(Pd.optr En.cls 0 v0.ownBlock ((i124:Int).toNat*En.cls.sz) e129),(Pd.rep En.cls e129),(Pi r131),(Pd.rep En.bool (decide (r131<0))),(Pd.rep En.bool (!(decide (r131<0))))] L (by kernel_rfl) J J ?_ ?_)
     ·refine zbe.cons (zn (O 4 J) J J) ?_;refine zbe.cons (zn (O 0 J) J J) ?_;refine zbe.cons (zn (O 22 J) J J) ?_;refine zbe.cons (zn (O 23 J) J J) ?_;refine zbe.cons (zo6 (O 160 J) (O 161 J) h126 J J) ?_;refine zbe.cons (zd7 (o_p (O 159 J)) (O 162 J) h128 U36 zgi J J) ?_;refine zbe.cons (zcn zgi (O 163 J) J J) ?_;refine zbe.cons (zn (O 0 J) J J) ?_;refine zbe.cons (zn (O 23 J) J J) ?_;refine zbe.cons (zd7 (o_p (O 165 J)) (O 166 J) h130 U36 zgi J J) ?_;refine zbe.cons (zcn zgi (O 167 J) J J) ?_;refine zbe.cons (zfj (q:=(e127,e129,r131)) (O 158 J) h132 (xs:=[.tmp 164,.tmp 168]) (.cons (O 164 J) (.cons (O 168 J) .nil)) (fun _ _ _ h_=>h_) J J) ?_;refine zbe.cons (zmm (O 169 J) oI J J) ?_;refine zbe.cons (t_not (O 170 J) J J) ?_;exact zbe.nil
     intro a s _ L;replace L:=L.kk (L':=[(0,(Pd.prow En.cls 51 v0 data_)),(1,(Pi a_)),(2,(Pi m_)),(3,(Pi b_)),(4,(Pd.rep EnF211 cmp_)),(18,(Pi i87)),(19,(Pi (i87+m_))),(20,(Pi start117)),(21,(Pi r118)),(22,(Pi ((i87+m_)-1))),(23,(Pi i124)),(171,(Pd.rep En.bool (!(decide (r131<0)))))]);refine dp ?_;refine es (cn L h (fun h=>?_) fun h=>?_)
     ·obtain ⟨h133,h⟩:=h;refine rg (sA 3 L fun a s L=>?_);refine en' ?_;exact hKL121 a s ⟨(i124+1),r118,L.kk,h⟩
     ·refine rg ?_;refine sA 2 L fun a s L=>?_;refine en' ?_;exact hKL121 a s ⟨start117,i124,L.kk,h⟩
    ·refine wp_exit ?_;exact J97 start117 a s (L.kk) h
   refine cn L h (fun h=>?_) fun h=>?_
   ·obtain ⟨h134,h⟩:=h;refine rA 4 L fun a s L=>?_;refine rg (sA 2 L fun a s L=>?_);refine en' ?_;exact J93 ((i87+m_)-b_) i87 a s (L.kk) h
   ·refine rA 2 L fun a s L=>?_;refine rg (sA 2 L fun a s L=>?_);refine en' ?_;exact J93 a_ m_ a s (L.kk) h
theorem zc9 (v0:Value) {data_:(List Cl)} {a_:Int} {m_:Int} {b_:Int} {cmp_:(Cl × Cl × Int→Prop)} {r_:(List Cl)} (h:za data_ a_ m_ b_ cmp_ r_):Fm Tryz.prog 186 (fun b=>v0.ownBlock=some b) [(Pd.prow En.cls 51 v0 data_),(Pi a_),(Pi m_),(Pi b_),(Pd.rep EnF211 cmp_)] (fun _ s' _=>(Pd.prow En.cls 51 v0 r_).p s' v0):=by
 obtain ⟨k_,h⟩:=h;exact za.n_ok k_ v0 h
theorem zfd (v0:Value) {data_:(List Cl)} {nv_:Int} {cmp_:(Cl × Cl × Int→Prop)} {r_:(List Cl)} (h:zb data_ nv_ cmp_ r_):Fm Tryz.prog 179 (fun b=>v0.ownBlock=some b) [(Pd.prow En.cls 51 v0 data_),(Pi nv_),(Pd.rep EnF211 cmp_)] (fun _ s' _=>(Pd.prow En.cls 51 v0 r_).p s' v0):=by
 unfold zb at h;refine zpq Tryz.func179 J Tryz.ntmps179 (by rfl) (by simp) fun s0 a L=>?_;refine rA 1 L fun a s L=>?_;refine rA 3 L fun a s L=>?_;refine wp_seq_k fun K1 H1=>wp_block ?_;have J4:∀(data2:(List Cl)) (a3:Int) (a:Act) (s:St),Has (fun b=>v0.ownBlock=some b) 63 s0 a s [(0,(Pd.prow En.cls 51 v0 data2)),(1,(Pi nv_)),(2,(Pd.rep EnF211 cmp_)),(6,(Pi 20)),(7,(Pi a3))]→((zb.j3 nv_ cmp_ r_) data2 a3)→K1 a s.w:=by
  intro data2 a3 a s L h;unfold zb.j3 at h;show K1 a s.w;refine H1 _ _ ?_;obtain ⟨r5,h6,h⟩:=h;refine rs (sA 4 L fun a s L=>?_);refine zfc 27 (fun v0=>zcr v0 h6) L (fun b h=>h) op opz J J J J kw fun a s L=>?_;refine es (wp_block ?_);have J8:∀(data7:(List Cl)) (a:Act) (s:St),Has (fun b=>v0.ownBlock=some b) 63 s0 a s [(0,(Pd.prow En.cls 51 v0 data7))]→((zb.j1 r_) data7)→(bodyPost Tryz.prog Tryz.f179 (Pst (fun b=>v0.ownBlock=some b) (fun _ s' _=>(Pd.prow En.cls 51 v0 r_).p s' v0) s0) .normal) a s.w:=by
   intro data7 a s L h;unfold zb.j1 at h;subst h;exact retm J L (c:=0) J
  obtain ⟨k11,h⟩:=h;refine lpn (fun k12 a s=>∃(data9:(List Cl)) (blockSize10:Int),Has (fun b=>v0.ownBlock=some b) 63 s0 a s [(0,(Pd.prow En.cls 51 v0 data9)),(1,(Pi nv_)),(2,(Pd.rep EnF211 cmp_)),(6,(Pi blockSize10))]∧zb.l1 nv_ cmp_ (zb.j1 r_) k12 data9 blockSize10) k11 ⟨r5,20,L.kk,h⟩ ?_;rintro k12 a s ⟨data9,blockSize10,L,h⟩ KL13 hKL13;unfold zb.l1 at h;refine wp_seq_k fun K14 H14=>rA 3 L fun a s L=>?_;refine cn L h (fun h=>?_) fun h=>?_
  ·refine wp_skip (H14 _ _ ?_);refine wp_block ?_;obtain ⟨h15,h⟩:=h;refine rA 4 L fun a s L=>?_;refine wp_seq_k fun K16 H16=>wp_block ?_;have J19:∀(data17:(List Cl)) (a18:Int) (a:Act) (s:St),Has (fun b=>v0.ownBlock=some b) 63 s0 a s [(0,(Pd.prow En.cls 51 v0 data17)),(1,(Pi nv_)),(2,(Pd.rep EnF211 cmp_)),(6,(Pi blockSize10)),(7,(Pi a18))]→((zb.j2 (zb.l1 nv_ cmp_ (zb.j1 r_) k12) nv_ cmp_ blockSize10) data17 a18)→K16 a s.w:=by
    intro data17 a18 a s L h;unfold zb.j2 at h;show K16 a s.w;refine H16 _ _ (wp_seq_k fun K20 H20=>?_);obtain ⟨h21,h⟩:=h;refine rA 4 L fun a s L=>?_;refine rA 3 L fun a s L=>?_;refine cn L h (fun h=>?_) fun h=>?_
    ·obtain ⟨r22,h23,h⟩:=h;refine rg (sA 5 L fun a s L=>?_);refine zfc 60 (fun v0=>zc9 v0 h23) L (fun b h=>h) op opz J J J J kw fun a s L=>?_;refine en' (H20 _ _ ?_);obtain ⟨h24,h⟩:=h;refine rg (sA 3 L fun a s L=>?_);refine en' ?_;exact hKL13 a s ⟨r22,(blockSize10*2),L.kk,h⟩
    ·refine wp_skip (H20 _ _ ?_);obtain ⟨h25,h⟩:=h;refine rg (sA 3 L fun a s L=>?_);refine en' ?_;exact hKL13 a s ⟨data17,(blockSize10*2),L.kk,h⟩
   obtain ⟨k29,h⟩:=h;refine lpn (fun k30 a s=>∃(data26:(List Cl)) (a27:Int) (b28:Int),Has (fun b=>v0.ownBlock=some b) 63 s0 a s [(0,(Pd.prow En.cls 51 v0 data26)),(1,(Pi nv_)),(2,(Pd.rep EnF211 cmp_)),(6,(Pi blockSize10)),(7,(Pi a27)),(8,(Pi b28))]∧zb.l2 nv_ cmp_ blockSize10 (zb.j2 (zb.l1 nv_ cmp_ (zb.j1 r_) k12) nv_ cmp_ blockSize10) k30 data26 a27 b28) k29 ⟨data9,0,(2*blockSize10),L.kk,h⟩ ?_;rintro k30 a s ⟨data26,a27,b28,L,h⟩ KL31 hKL31;unfold zb.l2 at h;refine wp_seq_k fun K32 H32=>rA 3 L fun a s L=>?_;refine cn L h (fun h=>?_) fun h=>?_
   ·refine wp_skip (H32 _ _ ?_);refine wp_block ?_;obtain ⟨h33,r34,h35,h⟩:=h;refine rs (sA 7 L fun a s L=>?_);refine zfc 43 (fun v0=>zc9 v0 h35) L (fun b h=>h) op opz J J J J kw fun a s L=>?_;refine es (rA 2 L fun a s L=>?_);obtain ⟨h36,h37,h⟩:=h;refine rg (sA 5 L fun a s L=>?_);refine en' ?_;exact hKL31 a s ⟨r34,b28,(b28+(2*blockSize10)),L.kk,h⟩
   ·refine wp_exit ?_;exact J19 data26 a27 a s (L.kk) h
  ·refine wp_exit ?_;exact J8 data9 a s (L.kk) h
 obtain ⟨k41,h⟩:=h;refine lpn (fun k42 a s=>∃(data38:(List Cl)) (a39:Int) (b40:Int),Has (fun b=>v0.ownBlock=some b) 63 s0 a s [(0,(Pd.prow En.cls 51 v0 data38)),(1,(Pi nv_)),(2,(Pd.rep EnF211 cmp_)),(6,(Pi 20)),(7,(Pi a39)),(8,(Pi b40))]∧zb.l3 nv_ cmp_ (zb.j3 nv_ cmp_ r_) k42 data38 a39 b40) k41 ⟨data_,0,20,L.kk,h⟩ ?_;rintro k42 a s ⟨data38,a39,b40,L,h⟩ KL43 hKL43;unfold zb.l3 at h;refine wp_seq_k fun K44 H44=>rA 3 L fun a s L=>?_;refine cn L h (fun h=>?_) fun h=>?_
 ·refine wp_skip (H44 _ _ ?_);refine wp_block ?_;obtain ⟨r45,h46,h⟩:=h;refine rs (sA 4 L fun a s L=>?_);refine zfc 18 (fun v0=>zcr v0 h46) L (fun b h=>h) op opz J J J J kw fun a s L=>?_;refine es (rA 2 L fun a s L=>?_);obtain ⟨h47,h⟩:=h;refine rg (sA 4 L fun a s L=>?_);refine en' ?_;exact hKL43 a s ⟨r45,b40,(b40+20),L.kk,h⟩
 ·refine wp_exit ?_;exact J4 data38 a39 a s (L.kk) h
theorem zdt (v0:Value) {x_:(List Cl)} {cmp_:(Cl × Cl × Int→Prop)} {r_:(List Cl)} (h:zbj x_ cmp_ r_):Fm Tryz.prog 166 (fun b=>v0.ownBlock=some b) [(Pd.prow En.cls 51 v0 x_),(Pd.rep EnF211 cmp_)] (fun _ s' _=>(Pd.prow En.cls 51 v0 r_).p s' v0):=by
 unfold zbj at h;refine zpq Tryz.func166 J Tryz.ntmps166 (by rfl) (by simp) fun s0 a L=>?_;obtain ⟨r1,h2,h⟩:=h;refine rg (sA 4 L fun a s L=>?_);refine zfc 8 (fun v0=>zfd v0 h2) L (fun b h=>h) op opz J J J J kw fun a s L=>?_;refine en' ?_;subst h;exact retm J L (c:=0) J
theorem zgn (v0:Value) {s_:(List Int)} {r_:(List Int)} (h:zt s_ r_):Fm Tryz.prog 140 (fun b=>v0.ownBlock=some b) [(Pd.prow (En.int .u8) 5 v0 s_)] (fun _ s' _=>(Pd.prow (En.int .u8) 5 v0 r_).p s' v0):=by
 unfold zt at h;refine zpq Tryz.func140 J Tryz.ntmps140 (by rfl) (by simp) fun s0 a L=>?_;obtain ⟨h1,h⟩:=h;refine rA 5 L fun a s L=>?_;refine wp_block ?_;have J3:∀(s2:(List Int)) (a:Act) (s:St),Has (fun b=>v0.ownBlock=some b) 28 s0 a s [(0,(Pd.prow (En.int .u8) 5 v0 s2))]→((zt.j1 r_) s2)→(bodyPost Tryz.prog Tryz.f140 (Pst (fun b=>v0.ownBlock=some b) (fun _ s' _=>(Pd.prow (En.int .u8) 5 v0 r_).p s' v0) s0) .normal) a s.w:=by
  intro s2 a s L h;unfold zt.j1 at h;subst h;exact retm J L (c:=0) J
 obtain ⟨k7,h⟩:=h;refine lpn (fun k8 a s=>∃(s4:(List Int)) (i5:Int) (j6:Int),Has (fun b=>v0.ownBlock=some b) 28 s0 a s [(0,(Pd.prow (En.int .u8) 5 v0 s4)),(2,(Pi i5)),(3,(Pi j6))]∧zt.l1 (zt.j1 r_) k8 s4 i5 j6) k7 ⟨s_,0,((s_.length:Int)-1),L.kk,h⟩ ?_;rintro k8 a s ⟨s4,i5,j6,L,h⟩ KL9 hKL9;unfold zt.l1 at h;refine wp_seq_k fun K10 H10=>rA 3 L fun a s L=>?_;refine cn L h (fun h=>?_) fun h=>?_
 ·refine wp_skip (H10 _ _ ?_);refine wp_seq_k fun K11 H11=>wp_block ?_;obtain ⟨e12,h13,e14,h15,e16,h17,e18,h19,h⟩:=h;refine rdf 16 zdq L (by kernel_rfl) fun s _ L=>?_;refine zei 2 16 L (by rfl) (by kernel_rfl) (by kernel_rfl) (by kernel_rfl) (fun _ _ _ _ h=>h) (q:=(Pd.prow (En.int .u8) 5 v0 s4)) (zii (O 0 J) J J) J J fun a L=>?_;refine zei 3 17 L (by rfl) (by kernel_rfl) (by kernel_rfl) (by kernel_rfl) (fun _ _ _ _ h=>h) (q:=(Pi j6)) (zii (O 3 J) J J) J J fun a L=>?_;refine fl_go 13 [(Pd.prow (En.int .u8) 5 v0 s4),(Pi i5),(Pd.prow (En.int .u8) 5 v0 s4),(Pi j6),(Pd.prow (En.int .u8) 5 v0 s4),(Pi j6),(Pd.optr (En.int .u8) 0 v0.ownBlock ((j6:Int).toNat*(En.int .u8).sz) e12),(Pd.rep (En.int .u8) e12),(Pd.prow (En.int .u8) 5 v0 s4),(Pi i5),(Pd.optr (En.int .u8) 0 v0.ownBlock ((i5:Int).toNat*(En.int .u8).sz) e14),(Pd.rep (En.int .u8) e14),(Pd.optr (En.int .u8) 0 v0.ownBlock ((i5:Int).toNat*(En.int .u8).sz) e16)] [2,3] L (by kernel_rfl) (by kernel_rfl) (by kernel_rfl) (.cons (i:=2) J J J J (.cons (i:=3) J J J J .nil)) J J ?_ ?_
  ·refine zc7.cons (zn (O 0 J) J J) ?_;refine zc7.cons (zn (O 2 J) J J) ?_;refine zc7.skip J ?_;refine zc7.skip J ?_;refine zc7.cons (zn (O 0 J) J J) ?_;refine zc7.cons (zn (O 3 J) J J) ?_;refine zc7.cons (zd7 (o_p (O 18 J)) (O 19 J) h13 U26 ty5 J J) ?_;refine zc7.cons (zcn ty5 (O 20 J) J J) ?_;refine zc7.cons (zn (O 0 J) J J) ?_;refine zc7.cons (zn (O 2 J) J J) ?_;refine zc7.cons (zd7 (o_p (O 22 J)) (O 23 J) h15 U26 ty5 J J) ?_;refine zc7.cons (zcn ty5 (O 24 J) J J) ?_;refine zc7.cons (zd7 (o_p (O 14 J)) (O 15 J) h17 U26 ty5 J J) ?_;exact zc7.nil
  intro a s _ L;replace L:=L.kk (L':=[(0,(Pd.prow (En.int .u8) 5 v0 s4)),(2,(Pi i5)),(3,(Pi j6)),(16,(Pd.prow (En.int .u8) 5 v0 s4)),(17,(Pi j6)),(21,(Pd.rep (En.int .u8) e12)),(25,(Pd.rep (En.int .u8) e14)),(26,(Pd.optr (En.int .u8) 0 v0.ownBlock ((i5:Int).toNat*(En.int .u8).sz) e16))]);refine dp ?_;refine zfq (off:=0) 0 (fun b h=>h) L J h17 op op (zp _ _ _) Tq.h J J J kw fun s L=>?_;refine sl 1 (p1 h19) L fun a s L=>?_;refine zfq (off:=0) 0 (fun b h=>h) L J h19 op op (zp _ _ _) Tq.h J J J kw fun s L=>?_;refine en' (H11 _ _ ?_);obtain ⟨h20,h21,h⟩:=h;refine rg (sA 6 L fun a s L=>?_);refine en' ?_;exact hKL9 a s ⟨((s4.set (i5:Int).toNat e12).set (j6:Int).toNat e14),(i5+1),(j6-1),L.kk,h⟩
 ·refine wp_exit ?_;exact J3 s4 a s (L.kk) h
def zf2 (a_:Cl) (cv_:Int) (r_:Bool):Prop:=(0≤(cv_ / 64)∧(cv_ / 64)<4)∧∃b2:Bool,b2=((andI (zp4 (Cl.w a_ (cv_ / 64)) (cv_ % 64)) 1)==1)∧r_=b2
def zbr.j1 (r_:Cl) (a5:Cl):Prop:=r_=a5
def zbr.j2 (L1_:Cl→Int→Prop) (w9:Int) (a16:Cl):Prop:=(InR .i64 (w9+1))∧L1_ a16 (w9+1)
def zbr.l2 (l_:(List Bool)) (w9:Int) (X2:Cl→Prop):Nat→Cl→Int→Int→Prop
 | 0,_,_,_=>False
 | k_0+1,a20,bit21,i22=>((decide (i22<64))=true→(InR .i64 (64*w9))∧(InR .i64 ((64*w9)+i22))∧∃e32:Bool,at? l_ ((64*w9)+i22)=some e32∧((e32)=true→(0≤w9∧w9<4)∧(0≤w9∧w9<4)∧(InR .i64 (i22+1))∧zbr.l2 l_ w9 X2 k_0 (Cl.setw a20 w9 (IntKind.wrap .u64 ((Cl.w a20 w9)+bit21))) (IntKind.wrap .u64 (bit21*2)) (i22+1))∧((e32)=false→(InR .i64 (i22+1))∧zbr.l2 l_ w9 X2 k_0 a20 (IntKind.wrap .u64 (bit21*2)) (i22+1)))∧((decide (i22<64))=false→X2 a20)
def zbr.l1 (l_:(List Bool)) (X1:Cl→Prop):Nat→Cl→Int→Prop
 | 0,_,_=>False
 | k_0+1,a8,w9=>((decide (w9<4))=true→∃k23,zbr.l2 l_ w9 (zbr.j2 (zbr.l1 l_ X1 k_0) w9) k23 a8 1 0)∧((decide (w9<4))=false→X1 a8)
def zbr (l_:(List Bool)) (r_:Cl):Prop:=∃k10,zbr.l1 l_ (zbr.j1 r_) k10 (0#256) 0
def zct.j1 (r_:Cl) (l5:(List Bool)):Prop:=∃r9:Cl,zbr l5 r9∧r_=r9
def zct.l1 (to_:Int) (X1:(List Bool)→Prop):Nat→(List Bool)→Int→Prop
 | 0,_,_=>False
 | k_0+1,l11,i13=>((decide (i13≤to_))=true→∃e20:Bool,at? l11 i13=some e20∧(InR .i64 (i13+1))∧zct.l1 to_ X1 k_0 (l11.set (i13:Int).toNat true) (i13+1))∧((decide (i13≤to_))=false→X1 l11)
def zct (from_:Int) (to_:Int) (r_:Cl):Prop:=∃k14,zct.l1 to_ (zct.j1 r_) k14 (List.replicate 256 false) from_
def zc5.j1 (r_:Cl) (a5:Cl):Prop:=r_=a5
def zc5.l1 (list_:(List Int)) (X1:Cl→Prop):Nat→Cl→Int→Prop
 | 0,_,_=>False
 | k_0+1,a8,v9=>((decide (v9<(list_.length:Int)))=true→∃e16:Int,at? list_ v9=some e16∧(0≤(e16 / 64)∧(e16 / 64)<4)∧(0≤(e16 / 64)∧(e16 / 64)<4)∧(InR .i64 (v9+1))∧zc5.l1 list_ X1 k_0 (Cl.setw a8 (e16 / 64) (orI (Cl.w a8 (e16 / 64)) (shlI 1 (e16 % 64)))) (v9+1))∧((decide (v9<(list_.length:Int)))=false→X1 a8)
def zc5 (a_:Cl) (list_:(List Int)) (r_:Cl):Prop:=∃k10,zc5.l1 list_ (zc5.j1 r_) k10 a_ 0
def zdl.j1 (r_:Cl) (a5:Cl):Prop:=r_=a5
def zdl.l1 (from_:Int) (to_:Int) (X1:Cl→Prop):Nat→Cl→Int→Prop
 | 0,_,_=>False
 | k_0+1,a8,v9=>((decide (v9<256))=true→∃b16:Bool,b16=((decide (from_≤v9 % 256))&&(decide (v9 % 256≤to_)))∧((b16)=true→∃r18:Cl,zc5 a8 [v9 % 256] r18∧(InR .i64 (v9+1))∧zdl.l1 from_ to_ X1 k_0 r18 (v9+1))∧((b16)=false→(InR .i64 (v9+1))∧zdl.l1 from_ to_ X1 k_0 a8 (v9+1)))∧((decide (v9<256))=false→X1 a8)
def zdl (from_:Int) (to_:Int) (r_:Cl):Prop:=∃k10,zdl.l1 from_ to_ (zdl.j1 r_) k10 (0#256) 0
def zc4.j1 (r_:Cl) (a5:Cl):Prop:=r_=a5
def zc4.l1 (X1:Cl→Prop):Nat→Cl→Int→Prop
 | 0,_,_=>False
 | k_0+1,a8,v9=>((decide (v9<4))=true→(0≤v9∧v9<4)∧(0≤v9∧v9<4)∧(InR .i64 (v9+1))∧zc4.l1 X1 k_0 (Cl.setw a8 v9 (xorI 18446744073709551615 (Cl.w a8 v9))) (v9+1))∧((decide (v9<4))=false→X1 a8)
def zc4 (a_:Cl) (r_:Cl):Prop:=∃k10,zc4.l1 (zc4.j1 r_) k10 a_ 0
def zcm.j1 (r_:Cl) (a5:Cl):Prop:=r_=a5
def zcm.l1 (b_:Cl) (X1:Cl→Prop):Nat→Cl→Int→Prop
 | 0,_,_=>False
 | k_0+1,a8,v9=>((decide (v9<4))=true→(0≤v9∧v9<4)∧(0≤v9∧v9<4)∧(0≤v9∧v9<4)∧(InR .i64 (v9+1))∧zcm.l1 b_ X1 k_0 (Cl.setw a8 v9 (andI (Cl.w a8 v9) (Cl.w b_ v9))) (v9+1))∧((decide (v9<4))=false→X1 a8)
def zcm (a_:Cl) (b_:Cl) (r_:Cl):Prop:=∃k10,zcm.l1 b_ (zcm.j1 r_) k10 a_ 0
def zb5.j1 (r_:Int) (n2:Int):Prop:=r_=n2
def zb5.l1 (a_:Cl) (X1:Int→Prop):Nat→Int→Int→Prop
 | 0,_,_=>False
 | k_0+1,n4,v5=>((decide (v5<256))=true→∃r11:Bool,zf2 a_ (v5 % 256) r11∧((r11)=true→(InR .i64 (n4+1))∧(InR .i64 (v5+1))∧zb5.l1 a_ X1 k_0 (n4+1) (v5+1))∧((r11)=false→(InR .i64 (v5+1))∧zb5.l1 a_ X1 k_0 n4 (v5+1)))∧((decide (v5<256))=false→X1 n4)
def zb5 (a_:Cl) (r_:Int):Prop:=∃k6,zb5.l1 a_ (zb5.j1 r_) k6 0 0
def zbz.j1 (r_:(Int × Bool)):Prop:=r_=(0,false)
def zbz.l1 (a_:Cl) (r_:(Int × Bool)) (X1:Prop):Nat→Int→Prop
 | 0,_=>False
 | k_0+1,v3=>((decide (v3<256))=true→∃r9:Bool,zf2 a_ (v3 % 256) r9∧((r9)=true→r_=(v3 % 256,true))∧((r9)=false→(InR .i64 (v3+1))∧zbz.l1 a_ r_ X1 k_0 (v3+1)))∧((decide (v3<256))=false→X1)
def zbz (a_:Cl) (r_:(Int × Bool)):Prop:=∃k4,zbz.l1 a_ r_ (zbz.j1 r_) k4 0
def zcu.j1 (r_:Bool) (w4:Int):Prop:=r_=((w4 % 2)==1)
def zcu.l1 (cv_:Int) (X1:Int→Prop):Nat→Int→Int→Prop
 | 0,_,_=>False
 | k_0+1,w6,i7=>(0≤cv_)∧((decide (i7<cv_ % 64))=true→(InR .i64 (i7+1))∧zcu.l1 cv_ X1 k_0 (w6 / 2) (i7+1))∧((decide (i7<cv_ % 64))=false→X1 w6)
def zcu (a_:Cl) (cv_:Int) (r_:Bool):Prop:=(0≤cv_)∧(0≤(cv_ / 64)∧(cv_ / 64)<4)∧∃k8,zcu.l1 cv_ (zcu.j1 r_) k8 (Cl.w a_ (cv_ / 64)) 0
set_option maxRecDepth 100000
set_option maxHeartbeats 2000000
set_option synthInstance.maxSize 100000
set_option synthInstance.maxHeartbeats 200000
theorem zi9 {a_:Cl} {cv_:Int} {r_:Bool} (h:zf2 a_ cv_ r_):Fn Tryz.prog 137 [(Pd.rep En.cls a_),(Pd.rep (En.int .u8) cv_)] (Rq (Pd.rep En.bool r_)):=by
 unfold zf2 at h;refine zbo Tryz.func137 J Tryz.ntmps137 (by rfl) (by simp) fun s0 a L=>?_;refine rA 2 L fun a s L=>?_;obtain ⟨h1,b2,h3,h⟩:=h;refine ra 10 (p1 h3) L fun a s L=>?_;subst h;exact wp_ret (zdr J L J)
theorem ref01_Of_ok {l_:(List Bool)} {r_:Cl} (h:zbr l_ r_):Fn Tryz.prog 83 [(Pd.rep (En.slice En.bool) l_)] (Rq (Pd.rep En.cls r_)):=by
 unfold zbr at h;refine zbo Tryz.func83 J Tryz.ntmps83 (by rfl) (by simp) fun s0 a L=>?_;refine rs (zbb En.cls (z:=(0#256)) 2 L zkl J J J J fun a s g1 hg_ L=>?_);refine es (rs ?_);have lt_d3:=L.blt 2 rfl;refine zbb En.cls (z:=(0#256)) 3 L zkl J J J J fun a s g2 hg_ L=>?_;have d3:=Dis.newg hg_ lt_d3;refine es (wp_seq_k fun K4 H4=>?_);refine rA 1 L fun a s L=>?_;refine wp_block ?_;have J6:∀(a5:Cl) (a:Act) (s:St),Has N0 32 s0 a s [(2,(Pd.box En.cls s0.w.heap.size g1 (0#256))),(3,(Pd.box En.cls s0.w.heap.size g2 a5))]→Dis (some g1) (some g2)→((zbr.j1 r_) a5)→K4 a s.w:=by
  intro a5 a s L d7 h;unfold zbr.j1 at h;show K4 a s.w;refine H4 _ _ (rs ?_);refine sA 1 L fun a s L=>?_;refine sB 2 L fun s L=>?_;refine es ?_;subst h;exact wp_ret (retb J zgi L J)
 obtain ⟨k10,h⟩:=h;refine lpn (fun k11 a s=>∃(a8:Cl) (w9:Int),Has N0 32 s0 a s [(0,(Pd.rep (En.slice En.bool) l_)),(2,(Pd.box En.cls s0.w.heap.size g1 (0#256))),(3,(Pd.box En.cls s0.w.heap.size g2 a8)),(4,(Pi w9))]∧Dis (some g1) (some g2)∧zbr.l1 l_ (zbr.j1 r_) k11 a8 w9) k10 ⟨(0#256),0,L.kk,(Dis.symm d3),h⟩ ?_;rintro k11 a s ⟨a8,w9,L,d13,h⟩ KL12 hKL12;unfold zbr.l1 at h;refine wp_seq_k fun K14 H14=>rA 2 L fun a s L=>?_;refine cn L h (fun h=>?_) fun h=>?_
 ·refine wp_skip (H14 _ _ ?_);refine wp_seq_k fun K15 H15=>wp_block (rA 1 L fun a s L=>?_);refine rA 1 L fun a s L=>?_;refine wp_block ?_;have J17:∀(a16:Cl) (a:Act) (s:St),Has N0 32 s0 a s [(0,(Pd.rep (En.slice En.bool) l_)),(2,(Pd.box En.cls s0.w.heap.size g1 (0#256))),(3,(Pd.box En.cls s0.w.heap.size g2 a16)),(4,(Pi w9))]→Dis (some g1) (some g2)→((zbr.j2 (zbr.l1 l_ (zbr.j1 r_) k11) w9) a16)→K15 a s.w:=by
   intro a16 a s L d18 h;unfold zbr.j2 at h;show K15 a s.w;refine H15 _ _ ?_;obtain ⟨h19,h⟩:=h;refine rg (sA 3 L fun a s L=>?_);refine en' ?_;exact hKL12 a s ⟨a16,(w9+1),L.kk,d18,h⟩
  obtain ⟨k23,h⟩:=h;refine lpn (fun k24 a s=>∃(a20:Cl) (bit21:Int) (i22:Int),Has N0 32 s0 a s [(0,(Pd.rep (En.slice En.bool) l_)),(2,(Pd.box En.cls s0.w.heap.size g1 (0#256))),(3,(Pd.box En.cls s0.w.heap.size g2 a20)),(4,(Pi w9)),(5,(Pd.rep (En.int .u64) bit21)),(6,(Pi i22))]∧Dis (some g1) (some g2)∧zbr.l2 l_ w9 (zbr.j2 (zbr.l1 l_ (zbr.j1 r_) k11) w9) k24 a20 bit21 i22) k23 ⟨a8,1,0,L.kk,d13,h⟩ ?_;rintro k24 a s ⟨a20,bit21,i22,L,d26,h⟩ KL25 hKL25;unfold zbr.l2 at h;refine wp_seq_k fun K27 H27=>rA 2 L fun a s L=>?_;refine cn L h (fun h=>?_) fun h=>?_
  ·refine wp_skip (H27 _ _ ?_);refine wp_seq_k fun K28 H28=>wp_block (wp_seq_k fun K29 H29=>?_);obtain ⟨h30,h31,e32,h33,h⟩:=h;refine ra 7 (p1 h33) L fun a s L=>?_;refine cn L h (fun h=>?_) fun h=>?_
   ·obtain ⟨h34,h35,h⟩:=h;refine rg (sA 7 L fun a s L=>?_);refine zea 3 L J op op (zqs h35) Tq.h J J J ka fun s L=>?_;refine en' (H29 _ _ ?_);refine rg (sA 3 L fun a s L=>?_);refine en' (H28 _ _ ?_);obtain ⟨h36,h⟩:=h;refine rg (sA 3 L fun a s L=>?_);refine en' ?_;exact hKL25 a s ⟨(Cl.setw a20 w9 (IntKind.wrap .u64 ((Cl.w a20 w9)+bit21))),(IntKind.wrap .u64 (bit21*2)),(i22+1),L.kk,d26,h⟩
   ·refine wp_skip (H29 _ _ ?_);refine rg (sA 3 L fun a s L=>?_);refine en' (H28 _ _ ?_);obtain ⟨h37,h⟩:=h;refine rg (sA 3 L fun a s L=>?_);refine en' ?_;exact hKL25 a s ⟨a20,(IntKind.wrap .u64 (bit21*2)),(i22+1),L.kk,d26,h⟩
  ·refine wp_exit ?_;exact J17 a20 a s (L.kk) d26 h
 ·refine wp_exit ?_;exact J6 a8 a s (L.kk) d13 h
theorem ref01_Row_ok {from_:Int} {to_:Int} {r_:Cl} (h:zct from_ to_ r_):Fn Tryz.prog 47 [(Pd.rep (En.int .u8) from_),(Pd.rep (En.int .u8) to_)] (Rq (Pd.rep En.cls r_)):=by
 unfold zct at h;refine zbo Tryz.func47 J Tryz.ntmps47 (by rfl) (by simp) fun s0 a L=>?_;refine rs (zbb En.cls (z:=(0#256)) 4 L zkl J J J J fun a s g1 hg_ L=>?_);refine es (rs ?_);have lt_d3:=L.blt 4 rfl;refine st_make En.bool (z:=false) (m:=256) 7 L op op (by decide) Ud.h Tq.h tyz4 J J J J fun a s g2 hg_ L=>?_;have d3:=Dis.newg hg_ lt_d3;refine sA 1 L fun a s L=>?_;refine es (wp_seq_k fun K4 H4=>?_);refine rA 3 L fun a s L=>?_;refine wp_block ?_;have J7:∀(l5:(List Bool)) (og6:Option Nat) (a:Act) (s:St),Has N0 21 s0 a s [(4,(Pd.box En.cls s0.w.heap.size g1 (0#256))),(5,(Pd.row En.bool s0.w.heap.size 4 og6 l5))]→Dis (some g1) og6→((zct.j1 r_) l5)→K4 a s.w:=by
  intro l5 og6 a s L d8 h;unfold zct.j1 at h;show K4 a s.w;refine H4 _ _ (fzc 5 L fun s L=>?_);obtain ⟨r9,h10,h⟩:=h;refine rs (sl 2 (p1 (ref01_Of_ok h10)) L fun a s L=>?_);refine sB 4 L fun s L=>?_;refine es ?_;subst h;exact wp_ret (retb J zgi L J)
 obtain ⟨k14,h⟩:=h;refine lpn (fun k15 a s=>∃(l11:(List Bool)) (i13:Int) (og12:Option Nat),Has N0 21 s0 a s [(1,(Pd.rep (En.int .u8) to_)),(4,(Pd.box En.cls s0.w.heap.size g1 (0#256))),(5,(Pd.row En.bool s0.w.heap.size 4 og12 l11)),(6,(Pi i13))]∧Dis (some g1) og12∧zct.l1 to_ (zct.j1 r_) k15 l11 i13) k14 ⟨(List.replicate 256 false),from_,(some g2),L.kk,(Dis.symm d3),h⟩ ?_;rintro k15 a s ⟨l11,i13,og12,L,d17,h⟩ KL16 hKL16;unfold zct.l1 at h;refine wp_seq_k fun K18 H18=>rA 4 L fun a s L=>?_;refine cn L h (fun h=>?_) fun h=>?_
 ·refine wp_skip (H18 _ _ ?_);refine wp_seq_k fun K19 H19=>wp_block ?_;obtain ⟨e20,h21,h⟩:=h;refine rg (sl 3 (p1 h21) L fun a s L=>?_);refine zgk (off:=0) 5 L J h21 op o_b (zp _ _ _) Tq.h J J J kw fun s L=>?_;refine en' (H19 _ _ ?_);obtain ⟨h22,h⟩:=h;refine rg (sA 3 L fun a s L=>?_);refine en' ?_;exact hKL16 a s ⟨(l11.set (i13:Int).toNat true),(i13+1),og12,L.kk,d17,h⟩
 ·refine wp_exit ?_;exact J7 l11 og12 a s (L.kk) d17 h
theorem class_Add_ok {a_:Cl} {list_:(List Int)} {r_:Cl} (h:zc5 a_ list_ r_):Fn Tryz.prog 138 [(Pd.rep En.cls a_),(Pd.rep (En.slice (En.int .u8)) list_)] (Rq (Pd.rep En.cls r_)):=by
 unfold zc5 at h;refine zbo Tryz.func138 J Tryz.ntmps138 (by rfl) (by simp) fun s0 a L=>?_;refine rs (st_boxm 2 L op J J J J fun a s g1 hg_ L=>?_);have lt_d3:=L.blt 2 rfl;refine zbb En.cls (z:=(0#256)) 4 L zkl J J J J fun a s g2 hg_ L=>?_;have d3:=Dis.newg hg_ lt_d3;refine es (wp_seq_k fun K4 H4=>?_);refine rA 3 L fun a s L=>?_;refine wp_block ?_;have J6:∀(a5:Cl) (a:Act) (s:St),Has N0 24 s0 a s [(2,(Pd.box En.cls s0.w.heap.size g1 a5)),(4,(Pd.box En.cls s0.w.heap.size g2 (0#256)))]→Dis (some g1) (some g2)→((zc5.j1 r_) a5)→K4 a s.w:=by
  intro a5 a s L d7 h;unfold zc5.j1 at h;show K4 a s.w;refine H4 _ _ (rs ?_);refine sA 1 L fun a s L=>?_;refine sB 4 L fun s L=>?_;refine es ?_;subst h;exact wp_ret (retb J zgi L J)
 obtain ⟨k10,h⟩:=h;refine lpn (fun k11 a s=>∃(a8:Cl) (v9:Int),Has N0 24 s0 a s [(2,(Pd.box En.cls s0.w.heap.size g1 a8)),(4,(Pd.box En.cls s0.w.heap.size g2 (0#256))),(7,(Pd.rep (En.slice (En.int .u8)) list_)),(8,(Pi (list_.length:Int))),(9,(Pi v9))]∧Dis (some g1) (some g2)∧zc5.l1 list_ (zc5.j1 r_) k11 a8 v9) k10 ⟨a_,0,L.kk,(Dis.symm d3),h⟩ ?_;rintro k11 a s ⟨a8,v9,L,d13,h⟩ KL12 hKL12;unfold zc5.l1 at h;refine rA 1 L fun a s L=>?_;refine wp_seq_k fun K14 H14=>cn L h (fun h=>?_) fun h=>?_
 ·refine wp_skip (H14 _ _ ?_);refine wp_seq_k fun K15 H15=>wp_block ?_;obtain ⟨e16,h17,h⟩:=h;refine ra 3 (p1 h17) L fun a s L=>?_;obtain ⟨h18,h19,h⟩:=h;refine rg (sA 9 L fun a s L=>?_);refine zea 2 L J op op (zqs h19) Tq.h J J J ka fun s L=>?_;refine en' (H15 _ _ ?_);obtain ⟨h20,h⟩:=h;refine rg (sA 2 L fun a s L=>?_);refine en' ?_;exact hKL12 a s ⟨(Cl.setw a8 (e16 / 64) (orI (Cl.w a8 (e16 / 64)) (shlI 1 (e16 % 64)))),(v9+1),L.kk,d13,h⟩
 ·refine wp_exit ?_;exact J6 a8 a s (L.kk) d13 h
theorem zou {from_:Int} {to_:Int} {r_:Cl} (h:zdl from_ to_ r_):Fn Tryz.prog 105 [(Pd.rep (En.int .u8) from_),(Pd.rep (En.int .u8) to_)] (Rq (Pd.rep En.cls r_)):=by
 unfold zdl at h;refine zbo Tryz.func105 J Tryz.ntmps105 (by rfl) (by simp) fun s0 a L=>?_;refine rs (zbb En.cls (z:=(0#256)) 4 L zkl J J J J fun a s g1 hg_ L=>?_);refine es (rs ?_);have lt_d3:=L.blt 4 rfl;refine zbb En.cls (z:=(0#256)) 5 L zkl J J J J fun a s g2 hg_ L=>?_;have d3:=Dis.newg hg_ lt_d3;refine es (wp_seq_k fun K4 H4=>?_);refine rA 1 L fun a s L=>?_;refine wp_block ?_;have J6:∀(a5:Cl) (a:Act) (s:St),Has N0 27 s0 a s [(4,(Pd.box En.cls s0.w.heap.size g1 (0#256))),(5,(Pd.box En.cls s0.w.heap.size g2 a5))]→Dis (some g1) (some g2)→((zdl.j1 r_) a5)→K4 a s.w:=by
  intro a5 a s L d7 h;unfold zdl.j1 at h;show K4 a s.w;refine H4 _ _ (rs ?_);refine sA 1 L fun a s L=>?_;refine sB 4 L fun s L=>?_;refine es ?_;subst h;exact wp_ret (retb J zgi L J)
 obtain ⟨k10,h⟩:=h;refine lpn (fun k11 a s=>∃(a8:Cl) (v9:Int),Has N0 27 s0 a s [(0,(Pd.rep (En.int .u8) from_)),(1,(Pd.rep (En.int .u8) to_)),(4,(Pd.box En.cls s0.w.heap.size g1 (0#256))),(5,(Pd.box En.cls s0.w.heap.size g2 a8)),(8,(Pi v9))]∧Dis (some g1) (some g2)∧zdl.l1 from_ to_ (zdl.j1 r_) k11 a8 v9) k10 ⟨(0#256),0,L.kk,(Dis.symm d3),h⟩ ?_;rintro k11 a s ⟨a8,v9,L,d13,h⟩ KL12 hKL12;unfold zdl.l1 at h;refine rA 1 L fun a s L=>?_;refine wp_seq_k fun K14 H14=>cn L h (fun h=>?_) fun h=>?_
 ·refine wp_skip (H14 _ _ ?_);refine wp_seq_k fun K15 H15=>wp_block (rA 2 L fun a s L=>?_);refine rA 3 L fun a s L=>?_;obtain ⟨b16,h17,h⟩:=h;refine ra 8 (p1 h17) L fun a s L=>?_;refine cn L h (fun h=>?_) fun h=>?_
  ·obtain ⟨r18,h19,h⟩:=h;refine rg (sl 4 (p1 (class_Add_ok h19)) L fun a s L=>?_);refine sB 5 L fun s L=>?_;refine en' (H15 _ _ ?_);obtain ⟨h20,h⟩:=h;refine rg (sA 2 L fun a s L=>?_);refine en' ?_;exact hKL12 a s ⟨r18,(v9+1),L.kk,d13,h⟩
  ·refine wp_skip (H15 _ _ ?_);obtain ⟨h21,h⟩:=h;refine rg (sA 2 L fun a s L=>?_);refine en' ?_;exact hKL12 a s ⟨a8,(v9+1),L.kk,d13,h⟩
 ·refine wp_exit ?_;exact J6 a8 a s (L.kk) d13 h
theorem zmg {a_:Cl} {r_:Cl} (h:zc4 a_ r_):Fn Tryz.prog 135 [(Pd.rep En.cls a_)] (Rq (Pd.rep En.cls r_)):=by
 unfold zc4 at h;refine zbo Tryz.func135 J Tryz.ntmps135 (by rfl) (by simp) fun s0 a L=>?_;refine rs (st_boxm 1 L op J J J J fun a s g1 hg_ L=>?_);have lt_d3:=L.blt 1 rfl;refine zbb En.cls (z:=(0#256)) 2 L zkl J J J J fun a s g2 hg_ L=>?_;have d3:=Dis.newg hg_ lt_d3;refine es (wp_seq_k fun K4 H4=>?_);refine rA 1 L fun a s L=>?_;refine wp_block ?_;have J6:∀(a5:Cl) (a:Act) (s:St),Has N0 15 s0 a s [(1,(Pd.box En.cls s0.w.heap.size g1 a5)),(2,(Pd.box En.cls s0.w.heap.size g2 (0#256)))]→Dis (some g1) (some g2)→((zc4.j1 r_) a5)→K4 a s.w:=by
  intro a5 a s L d7 h;unfold zc4.j1 at h;show K4 a s.w;refine H4 _ _ (rs ?_);refine sA 1 L fun a s L=>?_;refine sB 2 L fun s L=>?_;refine es ?_;subst h;exact wp_ret (retb J zgi L J)
 obtain ⟨k10,h⟩:=h;refine lpn (fun k11 a s=>∃(a8:Cl) (v9:Int),Has N0 15 s0 a s [(1,(Pd.box En.cls s0.w.heap.size g1 a8)),(2,(Pd.box En.cls s0.w.heap.size g2 (0#256))),(4,(Pi v9))]∧Dis (some g1) (some g2)∧zc4.l1 (zc4.j1 r_) k11 a8 v9) k10 ⟨a_,0,L.kk,(Dis.symm d3),h⟩ ?_;rintro k11 a s ⟨a8,v9,L,d13,h⟩ KL12 hKL12;unfold zc4.l1 at h;refine rA 1 L fun a s L=>?_;refine wp_seq_k fun K14 H14=>cn L h (fun h=>?_) fun h=>?_
 ·refine wp_skip (H14 _ _ ?_);refine wp_seq_k fun K15 H15=>wp_block (rA 2 L fun a s L=>?_);obtain ⟨h16,h17,h⟩:=h;refine rg (sA 4 L fun a s L=>?_);refine sv (t_com op J J) L fun a s L=>?_;refine sA 1 L fun a s L=>?_;refine zea 1 L J op op (zqs h17) Tq.h J J J ka fun s L=>?_;refine en' (H15 _ _ ?_);obtain ⟨h18,h⟩:=h;refine rg (sA 2 L fun a s L=>?_);refine en' ?_;exact hKL12 a s ⟨(Cl.setw a8 v9 (xorI 18446744073709551615 (Cl.w a8 v9))),(v9+1),L.kk,d13,h⟩
 ·refine wp_exit ?_;exact J6 a8 a s (L.kk) d13 h
theorem zla {a_:Cl} {b_:Cl} {r_:Cl} (h:zcm a_ b_ r_):Fn Tryz.prog 163 [(Pd.rep En.cls a_),(Pd.rep En.cls b_)] (Rq (Pd.rep En.cls r_)):=by
 unfold zcm at h;refine zbo Tryz.func163 J Tryz.ntmps163 (by rfl) (by simp) fun s0 a L=>?_;refine rs (st_boxm 2 L op J J J J fun a s g1 hg_ L=>?_);refine sA 1 L fun a s L=>?_;have lt_d3:=L.blt 2 rfl;refine zbb En.cls (z:=(0#256)) 4 L zkl J J J J fun a s g2 hg_ L=>?_;have d3:=Dis.newg hg_ lt_d3;refine es (wp_seq_k fun K4 H4=>?_);refine rA 1 L fun a s L=>?_;refine wp_block ?_;have J6:∀(a5:Cl) (a:Act) (s:St),Has N0 19 s0 a s [(2,(Pd.box En.cls s0.w.heap.size g1 a5)),(4,(Pd.box En.cls s0.w.heap.size g2 (0#256)))]→Dis (some g1) (some g2)→((zcm.j1 r_) a5)→K4 a s.w:=by
  intro a5 a s L d7 h;unfold zcm.j1 at h;show K4 a s.w;refine H4 _ _ (rs ?_);refine sA 1 L fun a s L=>?_;refine sB 4 L fun s L=>?_;refine es ?_;subst h;exact wp_ret (retb J zgi L J)
 obtain ⟨k10,h⟩:=h;refine lpn (fun k11 a s=>∃(a8:Cl) (v9:Int),Has N0 19 s0 a s [(2,(Pd.box En.cls s0.w.heap.size g1 a8)),(3,(Pd.ptr En.cls b_)),(4,(Pd.box En.cls s0.w.heap.size g2 (0#256))),(6,(Pi v9))]∧Dis (some g1) (some g2)∧zcm.l1 b_ (zcm.j1 r_) k11 a8 v9) k10 ⟨a_,0,L.kk,(Dis.symm d3),h⟩ ?_;rintro k11 a s ⟨a8,v9,L,d13,h⟩ KL12 hKL12;unfold zcm.l1 at h;refine rA 1 L fun a s L=>?_;refine wp_seq_k fun K14 H14=>cn L h (fun h=>?_) fun h=>?_
 ·refine wp_skip (H14 _ _ ?_);refine wp_seq_k fun K15 H15=>wp_block (rA 2 L fun a s L=>?_);obtain ⟨h16,h17,h18,h⟩:=h;refine rdx 8 trivial L fun a s L=>?_;refine zea 2 L J op op (zqs h18) Tq.h J J J ka fun s L=>?_;refine en' (H15 _ _ ?_);obtain ⟨h19,h⟩:=h;refine rg (sA 2 L fun a s L=>?_);refine en' ?_;exact hKL12 a s ⟨(Cl.setw a8 v9 (andI (Cl.w a8 v9) (Cl.w b_ v9))),(v9+1),L.kk,d13,h⟩
 ·refine wp_exit ?_;exact J6 a8 a s (L.kk) d13 h
theorem zpr {a_:Cl} {r_:Int} (h:zb5 a_ r_):Fn Tryz.prog 164 [(Pd.rep En.cls a_)] (Rq (Pi r_)):=by
 unfold zb5 at h;refine zbo Tryz.func164 J Tryz.ntmps164 (by rfl) (by simp) fun s0 a L=>?_;refine rA 2 L fun a s L=>?_;refine rA 1 L fun a s L=>?_;refine wp_seq_k fun K1 H1=>rA 1 L fun a s L=>?_;refine wp_block ?_;have J3:∀(n2:Int) (a:Act) (s:St),Has N0 16 s0 a s [(3,(Pi n2))]→((zb5.j1 r_) n2)→K1 a s.w:=by
  intro n2 a s L h;unfold zb5.j1 at h;show K1 a s.w;refine H1 _ _ (rA 2 L fun a s L=>?_);subst h;exact wp_ret (zdr J L J)
 obtain ⟨k6,h⟩:=h;refine lpn (fun k7 a s=>∃(n4:Int) (v5:Int),Has N0 16 s0 a s [(1,(Pd.ptr En.cls a_)),(3,(Pi n4)),(5,(Pi v5))]∧zb5.l1 a_ (zb5.j1 r_) k7 n4 v5) k6 ⟨0,0,L.kk,h⟩ ?_;rintro k7 a s ⟨n4,v5,L,h⟩ KL8 hKL8;unfold zb5.l1 at h;refine rA 1 L fun a s L=>?_;refine wp_seq_k fun K9 H9=>cn L h (fun h=>?_) fun h=>?_
 ·refine wp_skip (H9 _ _ ?_);refine wp_seq_k fun K10 H10=>wp_block (rA 2 L fun a s L=>?_);obtain ⟨r11,h12,h⟩:=h;refine ra 4 (p1 (zi9 h12)) L fun a s L=>?_;refine cn L h (fun h=>?_) fun h=>?_
  ·obtain ⟨h13,h⟩:=h;refine rg (sA 3 L fun a s L=>?_);refine en' (H10 _ _ ?_);obtain ⟨h14,h⟩:=h;refine rg (sA 2 L fun a s L=>?_);refine en' ?_;exact hKL8 a s ⟨(n4+1),(v5+1),L.kk,h⟩
  ·refine wp_skip (H10 _ _ ?_);obtain ⟨h15,h⟩:=h;refine rg (sA 2 L fun a s L=>?_);refine en' ?_;exact hKL8 a s ⟨n4,(v5+1),L.kk,h⟩
 ·refine wp_exit ?_;exact J3 n4 a s (L.kk) h
theorem zkb {a_:Cl} {r_:(Int × Bool)} (h:zbz a_ r_):Fn Tryz.prog 104 [(Pd.rep En.cls a_)] (Rq2 (Pd.rep (En.int .u8) r_.1) (Pd.rep En.bool r_.2)):=by
 unfold zbz at h;refine zbo Tryz.func104 J Tryz.ntmps104 (by rfl) (by simp) fun s0 a L=>?_;refine rA 3 L fun a s L=>?_;refine wp_seq_k fun K1 H1=>rA 1 L fun a s L=>?_;refine wp_block ?_;have J2:∀(a:Act) (s:St),Has N0 15 s0 a s []→((zbz.j1 r_))→K1 a s.w:=by
  intro a s L h;unfold zbz.j1 at h;show K1 a s.w;refine H1 _ _ (rA 2 L fun a s L=>?_);subst h;exact wp_ret (zn0 J L J J)
 obtain ⟨k4,h⟩:=h;refine lpn (fun k5 a s=>∃(v3:Int),Has N0 15 s0 a s [(1,(Pd.ptr En.cls a_)),(5,(Pi v3))]∧zbz.l1 a_ r_ (zbz.j1 r_) k5 v3) k4 ⟨0,L.kk,h⟩ ?_;rintro k5 a s ⟨v3,L,h⟩ KL6 hKL6;unfold zbz.l1 at h;refine rA 1 L fun a s L=>?_;refine wp_seq_k fun K7 H7=>cn L h (fun h=>?_) fun h=>?_
 ·refine wp_skip (H7 _ _ ?_);refine wp_seq_k fun K8 H8=>wp_block (rA 2 L fun a s L=>?_);obtain ⟨r9,h10,h⟩:=h;refine ra 4 (p1 (zi9 h10)) L fun a s L=>?_;refine cn L h (fun h=>?_) fun h=>?_
  ·refine rA 4 L fun a s L=>?_;subst h;exact wp_ret (zn0 J L J J)
  ·refine wp_skip (H8 _ _ ?_);obtain ⟨h11,h⟩:=h;refine rg (sA 2 L fun a s L=>?_);refine en' ?_;exact hKL6 a s ⟨(v3+1),L.kk,h⟩
 ·refine wp_exit ?_;exact J2 a s (L.kk) h
theorem ref01_Has_ok {a_:Cl} {cv_:Int} {r_:Bool} (h:zcu a_ cv_ r_):Fn Tryz.prog 108 [(Pd.rep En.cls a_),(Pd.rep (En.int .u8) cv_)] (Rq (Pd.rep En.bool r_)):=by
 unfold zcu at h;refine zbo Tryz.func108 J Tryz.ntmps108 (by rfl) (by simp) fun s0 a L=>?_;refine rA 2 L fun a s L=>?_;obtain ⟨h1,h2,h⟩:=h;refine rA 6 L fun a s L=>?_;refine wp_seq_k fun K3 H3=>rA 1 L fun a s L=>?_;refine wp_block ?_;have J5:∀(w4:Int) (a:Act) (s:St),Has N0 24 s0 a s [(5,(Pd.rep (En.int .u64) w4))]→((zcu.j1 r_) w4)→K3 a s.w:=by
  intro w4 a s L h;unfold zcu.j1 at h;show K3 a s.w;refine H3 _ _ (rA 4 L fun a s L=>?_);subst h;exact wp_ret (zdr J L J)
 obtain ⟨k8,h⟩:=h;refine lpn (fun k9 a s=>∃(w6:Int) (i7:Int),Has N0 24 s0 a s [(1,(Pd.rep (En.int .u8) cv_)),(5,(Pd.rep (En.int .u64) w6)),(6,(Pi i7))]∧zcu.l1 cv_ (zcu.j1 r_) k9 w6 i7) k8 ⟨(Cl.w a_ (cv_ / 64)),0,L.kk,h⟩ ?_;rintro k9 a s ⟨w6,i7,L,h⟩ KL10 hKL10;unfold zcu.l1 at h;refine wp_seq_k fun K11 H11=>?_;obtain ⟨h12,h⟩:=h;refine rA 5 L fun a s L=>?_;refine cn L h (fun h=>?_) fun h=>?_
 ·refine wp_skip (H11 _ _ ?_);refine wp_seq_k fun K13 H13=>wp_block (rg ?_);refine sA 3 L fun a s L=>?_;refine en' (H13 _ _ ?_);obtain ⟨h14,h⟩:=h;refine rg (sA 3 L fun a s L=>?_);refine en' ?_;exact hKL10 a s ⟨(w6 / 2),(i7+1),L.kk,h⟩
 ·refine wp_exit ?_;exact J5 w6 a s (L.kk) h
def zd5 (a_:Cl) (r_:Int):Prop:=∃r1:(Int × Bool),zbz a_ r1∧r_=r1.1
def zex (a_:Cl) (b_:Cl) (cap0_:(Cl × Int→Prop)) (r_:Int):Prop:=∃r1:Int,cap0_ (a_,r1)∧∃r3:Int,cap0_ (b_,r3)∧(InR .i64 (r1-r3))∧r_=r1-r3
def z7.j1 (r_:(List Cl)) (out2:(List Cl)):Prop:=∃r7:(List Cl),zbj out2 (fun q_=>zex q_.1 q_.2.1 (fun q_=>zd5 q_.1 q_.2) q_.2.2) r7∧r_=r7
def z7.j2 (L1_:(List Cl)→Int→Prop) (v11:Int) (out27:(List Cl)):Prop:=(InR .i64 (v11+1))∧L1_ out27 (v11+1)
def z7.l2 (r21:Cl) (r25:Cl) (X2:(List Cl)→Prop):Nat→(List Cl)→Int→Prop
 | 0,_,_=>False
 | k_0+1,out31,v33=>((decide (v33<([r21,r25].length:Int)))=true→∃e39:Cl,at? [r21,r25] v33=some e39∧∃r43:Int,zb5 e39 r43∧((decide (0<r43))=true→(out31.length+[e39].length≤2147483648)∧(InR .i64 (v33+1))∧z7.l2 r21 r25 X2 k_0 (out31++[e39]) (v33+1))∧((decide (0<r43))=false→(InR .i64 (v33+1))∧z7.l2 r21 r25 X2 k_0 out31 (v33+1)))∧((decide (v33<([r21,r25].length:Int)))=false→X2 out31)
def z7.l1 (parts_:(List Cl)) (a_:Cl) (X1:(List Cl)→Prop):Nat→(List Cl)→Int→Prop
 | 0,_,_=>False
 | k_0+1,out9,v11=>((decide (v11<(parts_.length:Int)))=true→∃e17:Cl,at? parts_ v11=some e17∧∃r21:Cl,zcm e17 a_ r21∧∃r23:Cl,zc4 a_ r23∧∃r25:Cl,zcm e17 r23 r25∧∃k34,z7.l2 r21 r25 (z7.j2 (z7.l1 parts_ a_ X1 k_0) v11) k34 out9 0)∧((decide (v11<(parts_.length:Int)))=false→X1 out9)
def z7 (parts_:(List Cl)) (a_:Cl) (r_:(List Cl)):Prop:=∃k12,z7.l1 parts_ a_ (z7.j1 r_) k12 ([]:(List Cl)) 0
def zca.j1 (r_:(List Cl)) (out5:(List Cl)):Prop:=r_=out5
def zca.l1 (list_:(List Cl)) (X1:(List Cl)→Prop):Nat→(List Cl)→Int→Prop
 | 0,_,_=>False
 | k_0+1,out8,v10=>((decide (v10<(list_.length:Int)))=true→∃e16:Cl,at? list_ v10=some e16∧∃r20:(List Cl),z7 out8 e16 r20∧(InR .i64 (v10+1))∧zca.l1 list_ X1 k_0 r20 (v10+1))∧((decide (v10<(list_.length:Int)))=false→X1 out8)
def zca (list_:(List Cl)) (r_:(List Cl)):Prop:=∃r1:Cl,zc4 (0#256) r1∧∃k11,zca.l1 list_ (zca.j1 r_) k11 [r1] 0
def zcb.j1 (r_:(List Int)) (out4:(List Int)):Prop:=r_=out4
def zcb.l1 (r2:(List Cl)) (X1:(List Int)→Prop):Nat→(List Int)→Int→Prop
 | 0,_,_=>False
 | k_0+1,out7,v9=>((decide (v9<(r2.length:Int)))=true→∃e15:Cl,at? r2 v9=some e15∧∃r19:(Int × Bool),zbz e15 r19∧(out7.length+[r19.1].length≤2147483648)∧(InR .i64 (v9+1))∧zcb.l1 r2 X1 k_0 (out7++[r19.1]) (v9+1))∧((decide (v9<(r2.length:Int)))=false→X1 out7)
def zcb (list_:(List Cl)) (r_:(List Int)):Prop:=∃r2:(List Cl),zca list_ r2∧∃k10,zcb.l1 r2 (zcb.j1 r_) k10 ([]:(List Int)) 0
def zce.j1 (r_:Bool):Prop:=r_=true
def zce.l1 (a_:(List Int)) (b_:(List Int)) (r_:Bool) (X1:Prop):Nat→Int→Prop
 | 0,_=>False
 | k_0+1,i4=>((decide (i4<(a_.length:Int)))=true→∃e10:Int,at? a_ i4=some e10∧∃e12:Int,at? b_ i4=some e12∧(((e10 != e12))=true→r_=false)∧(((e10 != e12))=false→(InR .i64 (i4+1))∧zce.l1 a_ b_ r_ X1 k_0 (i4+1)))∧((decide (i4<(a_.length:Int)))=false→X1)
def zce (a_:(List Int)) (b_:(List Int)) (r_:Bool):Prop:=((((a_.length:Int) != (b_.length:Int)))=true→r_=false)∧((((a_.length:Int) != (b_.length:Int)))=false→∃k5,zce.l1 a_ b_ r_ (zce.j1 r_) k5 0)
set_option maxRecDepth 100000
set_option maxHeartbeats 2000000
set_option synthInstance.maxSize 100000
set_option synthInstance.maxHeartbeats 200000
theorem zlq {a_:Cl} {r_:Int} (h:zd5 a_ r_):Fn Tryz.prog 165 [(Pd.rep En.cls a_)] (Rq (Pi r_)):=by
 unfold zd5 at h;refine zbo Tryz.func165 J Tryz.ntmps165 (by rfl) (by simp) fun s0 a L=>?_;refine rA 2 L fun a s L=>?_;obtain ⟨r1,h2,h⟩:=h;refine ra 7 (p1 ((zkb h2).tup)) L fun a s L=>?_;refine rA 3 L fun a s L=>?_;subst h;exact wp_ret (zdr J L J)
theorem zlp {a_:Cl} {b_:Cl} {cap0_:(Cl × Int→Prop)} {r_:Int} (h:zex a_ b_ cap0_ r_):Fn Tryz.prog 167 [(Pd.rep En.cls a_),(Pd.rep En.cls b_),(Pd.ptr EnF209 cap0_)] (Rq (Pi r_)):=by
 unfold zex at h;refine zbo Tryz.func167 J Tryz.ntmps167 (by rfl) (by simp) fun s0 a L=>?_;refine rA 3 L fun a s L=>?_;obtain ⟨r1,h2,r3,h4,h5,h⟩:=h;refine wp_seq (rda zdq 7 [(Pd.rep EnF209 cap0_),(Pd.rep En.cls a_),(Pi r1),(Pd.rep EnF209 cap0_),(Pd.rep En.cls b_),(Pi r3),(Pi (r1-r3))] L (by kernel_rfl) J J ?_ ?_)
 ·refine zbe.cons (zb2 ty209 (O 2 J) J J) ?_;refine zbe.cons (zb2 zgi (O 3 J) J J) ?_;refine zbe.cons (zfj (q:=(a_,r1)) (O 6 J) h2 (xs:=[.tmp 7]) (.cons (O 7 J) .nil) (fun _ _ _ h_=>h_) J J) ?_;refine zbe.cons (zb2 ty209 (O 2 J) J J) ?_;refine zbe.cons (zb2 zgi (O 4 J) J J) ?_;refine zbe.cons (zfj (q:=(b_,r3)) (O 9 J) h4 (xs:=[.tmp 10]) (.cons (O 10 J) .nil) (fun _ _ _ h_=>h_) J J) ?_;refine zbe.cons (zo6 (O 8 J) (O 11 J) h5 J J) ?_;exact zbe.nil
 intro a s _ L;replace L:=L.kk (L':=[(5,(Pi 0)),(12,(Pi (r1-r3)))]);refine dp ?_;refine sA 1 L fun a s L=>?_;refine es ?_;subst h;exact wp_ret (zdr J L J)
theorem znp {parts_:(List Cl)} {a_:Cl} {r_:(List Cl)} (h:z7 parts_ a_ r_):Fn Tryz.prog 136 [(Pd.rep (En.slice En.cls) parts_),(Pd.rep En.cls a_)] (Ro En.cls 51 r_):=by
 unfold z7 at h;refine zbo Tryz.func136 J Tryz.ntmps136 (by rfl) (by simp) fun s0 a L=>?_;refine rs (sA 1 L fun a s L=>?_);refine sno En.cls 51 L fun a s L=>?_;refine es (rs ?_);refine sno En.cls 51 L fun a s L=>?_;refine es (wp_seq_k fun K1 H1=>?_);refine rA 3 L fun a s L=>?_;refine wp_block ?_;have J4:∀(out2:(List Cl)) (og3:Option Nat) (a:Act) (s:St),Has N0 43 s0 a s [(5,(Pd.row En.cls s0.w.heap.size 51 og3 out2))]→((z7.j1 r_) out2)→K1 a s.w:=by
  intro out2 og3 a s L h;unfold z7.j1 at h;show K1 a s.w;refine H1 _ _ (rs ?_);have lt_d6:=L.rlt 5 rfl;refine zbb EnF209 (z:=(fun _=>False)) 10 L tyz209 J J J J fun a s g5 hg_ L=>?_;have d6:=Dis.newg hg_ lt_d6;refine zma 10 L J (o_q (Pd.rep EnF209 (fun q_=>zd5 q_.1 q_.2)) (o_fun (ze6 Tryz.func165 J (by rfl)) (fun q_ h_=>zlq h_))) Tq.h J J J ka fun s L=>?_;refine es (fbc 10 L fun s L=>?_);obtain ⟨r7,h8,h⟩:=h;refine rs (sA 1 L fun a s L=>?_);refine sv (t_q (Pd.rep EnF211 (fun q_=>zex q_.1 q_.2.1 (fun q_=>zd5 q_.1 q_.2) q_.2.2)) (t_mkfun (cs:=[.tmp 10]) (.cons op .nil) (ze6 Tryz.func167 J (by rfl)) (zm5 enc_ptr zsa) (fun q_ h_=>zlp h_) J J)) L fun a s L=>?_;refine zko 41 (fun v0=>zdt v0 h8) L op opz J J J J kw fun a s L=>?_;refine es (rA 2 L fun a s L=>?_);subst h;exact wp_ret (zf4 J L J)
 obtain ⟨k12,h⟩:=h;refine lpn (fun k13 a s=>∃(out9:(List Cl)) (v11:Int) (og10:Option Nat),Has N0 43 s0 a s [(3,(Pd.ptr En.cls a_)),(5,(Pd.row En.cls s0.w.heap.size 51 og10 out9)),(11,(Pd.rep (En.slice En.cls) parts_)),(12,(Pi (parts_.length:Int))),(13,(Pi v11))]∧z7.l1 parts_ a_ (z7.j1 r_) k13 out9 v11) k12 ⟨([]:(List Cl)),0,none,L.kk,h⟩ ?_;rintro k13 a s ⟨out9,v11,og10,L,h⟩ KL14 hKL14;unfold z7.l1 at h;refine rA 1 L fun a s L=>?_;refine wp_seq_k fun K15 H15=>cn L h (fun h=>?_) fun h=>?_
 ·refine wp_skip (H15 _ _ ?_);refine wp_seq_k fun K16 H16=>wp_block ?_;obtain ⟨e17,h18,h⟩:=h;refine rs (sl 2 (p1 h18) L fun a s L=>?_);have lt_d20:=L.rlt 5 rfl;refine zbb En.cls (z:=(0#256)) 7 L zkl J J J J fun a s g19 hg_ L=>?_;have d20:=Dis.newg hg_ lt_d20;refine sB 7 L fun s L=>?_;refine es ?_;obtain ⟨r21,h22,r23,h24,r25,h26,h⟩:=h;refine wp_seq (rdx 10 (pp (zla h22) (pp (zmg h24) (p1 (zla h26)))) L fun a s L=>?_);refine es (wp_block ?_);have J29:∀(out27:(List Cl)) (og28:Option Nat) (a:Act) (s:St),Has N0 43 s0 a s [(3,(Pd.ptr En.cls a_)),(5,(Pd.row En.cls s0.w.heap.size 51 og28 out27)),(11,(Pd.rep (En.slice En.cls) parts_)),(12,(Pi (parts_.length:Int))),(13,(Pi v11))]→((z7.j2 (z7.l1 parts_ a_ (z7.j1 r_) k13) v11) out27)→K16 a s.w:=by
   intro out27 og28 a s L h;unfold z7.j2 at h;show K16 a s.w;refine H16 _ _ ?_;obtain ⟨h30,h⟩:=h;refine rg (sA 2 L fun a s L=>?_);refine en' ?_;exact hKL14 a s ⟨out27,(v11+1),og28,L.kk,h⟩
  obtain ⟨k34,h⟩:=h;refine lpn (fun k35 a s=>∃(out31:(List Cl)) (v33:Int) (og32:Option Nat),Has N0 43 s0 a s [(3,(Pd.ptr En.cls a_)),(5,(Pd.row En.cls s0.w.heap.size 51 og32 out31)),(11,(Pd.rep (En.slice En.cls) parts_)),(12,(Pi (parts_.length:Int))),(13,(Pi v11)),(24,(Pd.rep (En.slice En.cls) [r21,r25])),(25,(Pi ([r21,r25].length:Int))),(26,(Pi v33))]∧z7.l2 r21 r25 (z7.j2 (z7.l1 parts_ a_ (z7.j1 r_) k13) v11) k35 out31 v33) k34 ⟨out9,0,og10,L.kk,h⟩ ?_;rintro k35 a s ⟨out31,v33,og32,L,h⟩ KL36 hKL36;unfold z7.l2 at h;refine rA 1 L fun a s L=>?_;refine wp_seq_k fun K37 H37=>cn L h (fun h=>?_) fun h=>?_
  ·refine wp_skip (H37 _ _ ?_);refine wp_seq_k fun K38 H38=>wp_block ?_;obtain ⟨e39,h40,h⟩:=h;refine rs (sl 2 (p1 h40) L fun a s L=>?_);have lt_d42:=L.rlt 5 rfl;refine zbb En.cls (z:=(0#256)) 9 L zkl J J J J fun a s g41 hg_ L=>?_;have d42:=Dis.newg hg_ lt_d42;refine sB 9 L fun s L=>?_;refine es ?_;obtain ⟨r43,h44,h⟩:=h;refine ra 3 (p1 (zpr h44)) L fun a s L=>?_;refine cn L h (fun h=>?_) fun h=>?_
   ·obtain ⟨h45,h⟩:=h;refine rg (sA 3 L fun a s L=>?_);refine zeb 36 L op op Ud.h Tq.h h45 J J J J ka fun a s og46 hg_ L=>?_;refine sA 1 L fun a s L=>?_;refine en' (H38 _ _ ?_);obtain ⟨h47,h⟩:=h;refine rg (sA 2 L fun a s L=>?_);refine en' ?_;exact hKL36 a s ⟨(out31++[e39]),(v33+1),og46,L.kk,h⟩
   ·refine wp_skip (H38 _ _ ?_);obtain ⟨h48,h⟩:=h;refine rg (sA 2 L fun a s L=>?_);refine en' ?_;exact hKL36 a s ⟨out31,(v33+1),og32,L.kk,h⟩
  ·refine wp_exit ?_;exact J29 out31 og32 a s (L.kk) h
 ·refine wp_exit ?_;exact J4 out9 og10 a s (L.kk) h
theorem zpb {list_:(List Cl)} {r_:(List Cl)} (h:zca list_ r_):Fn Tryz.prog 103 [(Pd.rep (En.slice En.cls) list_)] (Ro En.cls 51 r_):=by
 unfold zca at h;refine zbo Tryz.func103 J Tryz.ntmps103 (by rfl) (by simp) fun s0 a L=>?_;refine rs (sno En.cls 51 L fun a s L=>?_);refine es ?_;obtain ⟨r1,h2,h⟩:=h;refine rs (sv (t_bcls (x:=(0#256)) Ud.h (by rfl) zkl (fun _=>by kernel_rfl) J J) L fun a s L=>?_);refine sl 1 (p1 (zmg h2)) L fun a s L=>?_;refine zfk (xs:=[.tmp 7]) 8 L (.cons op .nil) Ud.h Tq.h J J (by decide) J J J J fun a s g3 hg_ L=>?_;refine sA 1 L fun a s L=>?_;refine es (wp_seq_k fun K4 H4=>?_);refine rA 3 L fun a s L=>?_;refine wp_block ?_;have J7:∀(out5:(List Cl)) (og6:Option Nat) (a:Act) (s:St),Has N0 20 s0 a s [(3,(Pd.row En.cls s0.w.heap.size 51 og6 out5))]→((zca.j1 r_) out5)→K4 a s.w:=by
  intro out5 og6 a s L h;unfold zca.j1 at h;show K4 a s.w;refine H4 _ _ (rA 2 L fun a s L=>?_);subst h;exact wp_ret (zf4 J L J)
 obtain ⟨k11,h⟩:=h;refine lpn (fun k12 a s=>∃(out8:(List Cl)) (v10:Int) (og9:Option Nat),Has N0 20 s0 a s [(3,(Pd.row En.cls s0.w.heap.size 51 og9 out8)),(9,(Pd.rep (En.slice En.cls) list_)),(10,(Pi (list_.length:Int))),(11,(Pi v10))]∧zca.l1 list_ (zca.j1 r_) k12 out8 v10) k11 ⟨[r1],0,(some g3),L.kk,h⟩ ?_;rintro k12 a s ⟨out8,v10,og9,L,h⟩ KL13 hKL13;unfold zca.l1 at h;refine rA 1 L fun a s L=>?_;refine wp_seq_k fun K14 H14=>cn L h (fun h=>?_) fun h=>?_
 ·refine wp_skip (H14 _ _ ?_);refine wp_seq_k fun K15 H15=>wp_block ?_;obtain ⟨e16,h17,h⟩:=h;refine rs (sl 2 (p1 h17) L fun a s L=>?_);have lt_d19:=L.rlt 3 rfl;refine zbb En.cls (z:=(0#256)) 5 L zkl J J J J fun a s g18 hg_ L=>?_;have d19:=Dis.newg hg_ lt_d19;refine sB 5 L fun s L=>?_;refine es (fzc 3 L fun s L=>?_);obtain ⟨r20,h21,h⟩:=h;refine rg (sA 2 L fun a s L=>?_);have lt_d23:=L.blt 5 rfl;refine zch 17 L (znp h21) opz J J J J fun a s og22 hg_ L=>?_;have d23:=Dis.new hg_ lt_d23;refine sA 1 L fun a s L=>?_;refine en' (H15 _ _ ?_);obtain ⟨h24,h⟩:=h;refine rg (sA 2 L fun a s L=>?_);refine en' ?_;exact hKL13 a s ⟨r20,(v10+1),og22,L.kk,h⟩
 ·refine wp_exit ?_;exact J7 out8 og9 a s (L.kk) h
theorem zpd {list_:(List Cl)} {r_:(List Int)} (h:zcb list_ r_):Fn Tryz.prog 65 [(Pd.rep (En.slice En.cls) list_)] (Ro (En.int .u8) 5 r_):=by
 unfold zcb at h;refine zbo Tryz.func65 J Tryz.ntmps65 (by rfl) (by simp) fun s0 a L=>?_;refine rs (sno (En.int .u8) 5 L fun a s L=>?_);refine es (rs ?_);refine sno (En.int .u8) 5 L fun a s L=>?_;refine es (wp_seq_k fun K1 H1=>?_);obtain ⟨r2,h3,h⟩:=h;refine ra 4 (p1 ((zpb h3).frz)) L fun a s L=>?_;refine wp_block ?_;have J6:∀(out4:(List Int)) (og5:Option Nat) (a:Act) (s:St),Has N0 26 s0 a s [(3,(Pd.row (En.int .u8) s0.w.heap.size 5 og5 out4))]→((zcb.j1 r_) out4)→K1 a s.w:=by
  intro out4 og5 a s L h;unfold zcb.j1 at h;show K1 a s.w;refine H1 _ _ (rA 2 L fun a s L=>?_);subst h;exact wp_ret (zf4 J L J)
 obtain ⟨k10,h⟩:=h;refine lpn (fun k11 a s=>∃(out7:(List Int)) (v9:Int) (og8:Option Nat),Has N0 26 s0 a s [(3,(Pd.row (En.int .u8) s0.w.heap.size 5 og8 out7)),(9,(Pd.rep (En.slice En.cls) r2)),(10,(Pi (r2.length:Int))),(11,(Pi v9))]∧zcb.l1 r2 (zcb.j1 r_) k11 out7 v9) k10 ⟨([]:(List Int)),0,none,L.kk,h⟩ ?_;rintro k11 a s ⟨out7,v9,og8,L,h⟩ KL12 hKL12;unfold zcb.l1 at h;refine rA 1 L fun a s L=>?_;refine wp_seq_k fun K13 H13=>cn L h (fun h=>?_) fun h=>?_
 ·refine wp_skip (H13 _ _ ?_);refine wp_seq_k fun K14 H14=>wp_block ?_;obtain ⟨e15,h16,h⟩:=h;refine rs (sl 2 (p1 h16) L fun a s L=>?_);have lt_d18:=L.rlt 3 rfl;refine zbb En.cls (z:=(0#256)) 5 L zkl J J J J fun a s g17 hg_ L=>?_;have d18:=Dis.newg hg_ lt_d18;refine sB 5 L fun s L=>?_;refine es ?_;obtain ⟨r19,h20,h⟩:=h;refine ra 7 (p1 ((zkb h20).tup)) L fun a s L=>?_;obtain ⟨h21,h⟩:=h;refine rg (sA 3 L fun a s L=>?_);refine zeb 23 L op op Ud.h Tq.h h21 J J J J ka fun a s og22 hg_ L=>?_;refine sA 1 L fun a s L=>?_;refine en' (H14 _ _ ?_);obtain ⟨h23,h⟩:=h;refine rg (sA 2 L fun a s L=>?_);refine en' ?_;exact hKL12 a s ⟨(out7++[r19.1]),(v9+1),og22,L.kk,h⟩
 ·refine wp_exit ?_;exact J6 out7 og8 a s (L.kk) h
theorem zpl {a_:(List Int)} {b_:(List Int)} {r_:Bool} (h:zce a_ b_ r_):Fn Tryz.prog 23 [(Pd.rep (En.slice (En.int .u8)) a_),(Pd.rep (En.slice (En.int .u8)) b_)] (Rq (Pd.rep En.bool r_)):=by
 unfold zce at h;refine zbo Tryz.func23 J Tryz.ntmps23 (by rfl) (by simp) fun s0 a L=>?_;refine rA 1 L fun a s L=>?_;refine wp_seq_k fun K1 H1=>rA 5 L fun a s L=>?_;refine cn L h (fun h=>?_) fun h=>?_
 ·refine rA 1 L fun a s L=>?_;subst h;exact wp_ret (zdr J L J)
 ·refine wp_skip (H1 _ _ ?_);refine wp_seq_k fun K2 H2=>rA 1 L fun a s L=>?_;refine wp_block ?_;have J3:∀(a:Act) (s:St),Has N0 26 s0 a s []→((zce.j1 r_))→K2 a s.w:=by
   intro a s L h;unfold zce.j1 at h;show K2 a s.w;refine H2 _ _ (rA 1 L fun a s L=>?_);subst h;exact wp_ret (zdr J L J)
  obtain ⟨k5,h⟩:=h;refine lpn (fun k6 a s=>∃(i4:Int),Has N0 26 s0 a s [(0,(Pd.rep (En.slice (En.int .u8)) a_)),(1,(Pd.rep (En.slice (En.int .u8)) b_)),(5,(Pi i4))]∧zce.l1 a_ b_ r_ (zce.j1 r_) k6 i4) k5 ⟨0,L.kk,h⟩ ?_;rintro k6 a s ⟨i4,L,h⟩ KL7 hKL7;unfold zce.l1 at h;refine wp_seq_k fun K8 H8=>rA 4 L fun a s L=>?_;refine cn L h (fun h=>?_) fun h=>?_
  ·refine wp_skip (H8 _ _ ?_);refine wp_seq_k fun K9 H9=>wp_block ?_;obtain ⟨e10,h11,e12,h13,h⟩:=h;refine wp_seq (rdx 9 (pp h11 (p1 h13)) L fun a s L=>?_);refine es (cn L h (fun h=>?_) fun h=>?_)
   ·refine rA 1 L fun a s L=>?_;subst h;exact wp_ret (zdr J L J)
   ·refine wp_skip (H9 _ _ ?_);obtain ⟨h14,h⟩:=h;refine rg (sA 3 L fun a s L=>?_);refine en' ?_;exact hKL7 a s ⟨(i4+1),L.kk,h⟩
  ·refine wp_exit ?_;exact J3 a s (L.kk) h
def zfs (s_:Str) (i_:Int) (from_:Int) (to_:Int) (r_:Bool):Prop:=∃c1:Int,(((decide (i_<(s_.length:Int)))=true)→zd2 s_ i_=some c1)∧∃b3:Bool,b3=((decide (i_<(s_.length:Int)))&&(decide (from_≤c1)))∧∃c5:Int,(((b3)=true)→zd2 s_ i_=some c5)∧r_=(b3&&(decide (c5≤to_)))
def zbl.j1 (r_:Bool):Prop:=r_=true
def zbl.l1 (s_:Str) (r_:Bool) (X1:Prop):Nat→Int→Prop
 | 0,_=>False
 | k_0+1,i3=>((decide (i3<(s_.length:Int)))=true→∃c8:Int,zd2 s_ i3=some c8∧(InR .i64 (i3+1))∧∃r11:Bool,zfs s_ (i3+1) 128 191 r11∧(InR .i64 (i3+2))∧∃r14:Bool,zfs s_ (i3+2) 128 191 r14∧(InR .i64 (i3+3))∧∃r17:Bool,zfs s_ (i3+3) 128 191 r17∧((decide (c8<128))=true→(InR .i64 (i3+1))∧zbl.l1 s_ r_ X1 k_0 (i3+1))∧((decide (c8<128))=false→∃b20:Bool,b20=(((decide (194≤c8))&&(decide (c8≤223)))&&r11)∧((b20)=true→(InR .i64 (i3+2))∧zbl.l1 s_ r_ X1 k_0 (i3+2))∧((b20)=false→((((c8==224))=true)→InR .i64 (i3+1))∧∃r24:Bool,((((c8==224))=true)→zfs s_ (i3+1) 160 191 r24)∧(((((c8==224)&&r24)&&r14))=true→(InR .i64 (i3+3))∧zbl.l1 s_ r_ X1 k_0 (i3+3))∧(((((c8==224)&&r24)&&r14))=false→∃b27:Bool,b27=(((decide (225≤c8))&&(decide (c8≤236)))||(c8==238))∧(((((b27||(c8==239))&&r11)&&r14))=true→(InR .i64 (i3+3))∧zbl.l1 s_ r_ X1 k_0 (i3+3))∧(((((b27||(c8==239))&&r11)&&r14))=false→((((c8==237))=true)→InR .i64 (i3+1))∧∃r31:Bool,((((c8==237))=true)→zfs s_ (i3+1) 128 159 r31)∧(((((c8==237)&&r31)&&r14))=true→(InR .i64 (i3+3))∧zbl.l1 s_ r_ X1 k_0 (i3+3))∧(((((c8==237)&&r31)&&r14))=false→((((c8==240))=true)→InR .i64 (i3+1))∧∃r35:Bool,((((c8==240))=true)→zfs s_ (i3+1) 144 191 r35)∧((((((c8==240)&&r35)&&r14)&&r17))=true→(InR .i64 (i3+4))∧zbl.l1 s_ r_ X1 k_0 (i3+4))∧((((((c8==240)&&r35)&&r14)&&r17))=false→∃b38:Bool,b38=(((decide (241≤c8))&&(decide (c8≤243)))&&r11)∧((((b38&&r14)&&r17))=true→(InR .i64 (i3+4))∧zbl.l1 s_ r_ X1 k_0 (i3+4))∧((((b38&&r14)&&r17))=false→((((c8==244))=true)→InR .i64 (i3+1))∧∃r42:Bool,((((c8==244))=true)→zfs s_ (i3+1) 128 143 r42)∧((((((c8==244)&&r42)&&r14)&&r17))=true→(InR .i64 (i3+4))∧zbl.l1 s_ r_ X1 k_0 (i3+4))∧((((((c8==244)&&r42)&&r14)&&r17))=false→r_=false)))))))))∧((decide (i3<(s_.length:Int)))=false→X1)
def zbl (s_:Str) (r_:Bool):Prop:=∃k4,zbl.l1 s_ r_ (zbl.j1 r_) k4 0
set_option maxRecDepth 100000
set_option maxHeartbeats 2000000
set_option synthInstance.maxSize 100000
set_option synthInstance.maxHeartbeats 200000
theorem ze5 {s_:Str} {i_:Int} {from_:Int} {to_:Int} {r_:Bool} (h:zfs s_ i_ from_ to_ r_):Fn Tryz.prog 168 [(Pd.rep En.str s_),(Pi i_),(Pi from_),(Pi to_)] (Rq (Pd.rep En.bool r_)):=by
 unfold zfs at h;refine zbo Tryz.func168 J Tryz.ntmps168 (by rfl) (by simp) fun s0 a L=>?_;refine rA 1 L fun a s L=>?_;obtain ⟨c1,h2,b3,h4,c5,h6,h⟩:=h;refine ra 21 (pp h2 (pp h4 (p1 h6))) L fun a s L=>?_;subst h;exact wp_ret (zdr J L J)
theorem zre {s_:Str} {r_:Bool} (h:zbl s_ r_):Fn Tryz.prog 141 [(Pd.rep En.str s_)] (Rq (Pd.rep En.bool r_)):=by
 unfold zbl at h;refine zbo Tryz.func141 J Tryz.ntmps141 (by rfl) (by simp) fun s0 a L=>?_;refine rA 1 L fun a s L=>?_;refine rA 1 L fun a s L=>?_;refine wp_seq_k fun K1 H1=>wp_block ?_;have J2:∀(a:Act) (s:St),Has N0 148 s0 a s []→((zbl.j1 r_))→K1 a s.w:=by
  intro a s L h;unfold zbl.j1 at h;show K1 a s.w;refine H1 _ _ (rA 1 L fun a s L=>?_);subst h;exact wp_ret (zdr J L J)
 obtain ⟨k4,h⟩:=h;refine lpn (fun k5 a s=>∃(i3:Int),Has N0 148 s0 a s [(0,(Pd.rep En.str s_)),(3,(Pi i3))]∧zbl.l1 s_ r_ (zbl.j1 r_) k5 i3) k4 ⟨0,L.kk,h⟩ ?_;rintro k5 a s ⟨i3,L,h⟩ KL6 hKL6;unfold zbl.l1 at h;refine wp_seq_k fun K7 H7=>rA 4 L fun a s L=>?_;refine cn L h (fun h=>?_) fun h=>?_
 ·refine wp_skip (H7 _ _ ?_);refine wp_block ?_;obtain ⟨c8,h9,h⟩:=h;refine ra 5 (p1 h9) L fun a s L=>?_;obtain ⟨h10,r11,h12,h⟩:=h;refine ra 5 (p1 (ze5 h12)) L fun a s L=>?_;obtain ⟨h13,r14,h15,h⟩:=h;refine ra 5 (p1 (ze5 h15)) L fun a s L=>?_;obtain ⟨h16,r17,h18,h⟩:=h;refine ra 5 (p1 (ze5 h18)) L fun a s L=>?_;refine wp_block (rA 3 L fun a s L=>?_);refine cn L h (fun h=>?_) fun h=>?_
  ·obtain ⟨h19,h⟩:=h;refine rg (sA 3 L fun a s L=>?_);refine en' ?_;exact hKL6 a s ⟨(i3+1),L.kk,h⟩
  ·obtain ⟨b20,h21,h⟩:=h;refine ra 10 (p1 h21) L fun a s L=>?_;refine cn L h (fun h=>?_) fun h=>?_
   ·obtain ⟨h22,h⟩:=h;refine rg (sA 3 L fun a s L=>?_);refine en' ?_;exact hKL6 a s ⟨(i3+2),L.kk,h⟩
   ·obtain ⟨h23,r24,h25,h⟩:=h;refine ra 12 (pp (fun hc_=>(ze5 (h25 hc_))) trivial) L fun a s L=>?_;refine cn L h (fun h=>?_) fun h=>?_
    ·obtain ⟨h26,h⟩:=h;refine rg (sA 3 L fun a s L=>?_);refine en' ?_;exact hKL6 a s ⟨(i3+3),L.kk,h⟩
    ·obtain ⟨b27,h28,h⟩:=h;refine ra 21 (p1 h28) L fun a s L=>?_;refine cn L h (fun h=>?_) fun h=>?_
     ·obtain ⟨h29,h⟩:=h;refine rg (sA 3 L fun a s L=>?_);refine en' ?_;exact hKL6 a s ⟨(i3+3),L.kk,h⟩
     ·obtain ⟨h30,r31,h32,h⟩:=h;refine ra 12 (pp (fun hc_=>(ze5 (h32 hc_))) trivial) L fun a s L=>?_;refine cn L h (fun h=>?_) fun h=>?_
      ·obtain ⟨h33,h⟩:=h;refine rg (sA 3 L fun a s L=>?_);refine en' ?_;exact hKL6 a s ⟨(i3+3),L.kk,h⟩
      ·obtain ⟨h34,r35,h36,h⟩:=h;refine ra 15 (pp (fun hc_=>(ze5 (h36 hc_))) trivial) L fun a s L=>?_;refine cn L h (fun h=>?_) fun h=>?_
       ·obtain ⟨h37,h⟩:=h;refine rg (sA 3 L fun a s L=>?_);refine en' ?_;exact hKL6 a s ⟨(i3+4),L.kk,h⟩
       ·obtain ⟨b38,h39,h⟩:=h;refine ra 16 (p1 h39) L fun a s L=>?_;refine cn L h (fun h=>?_) fun h=>?_
        ·obtain ⟨h40,h⟩:=h;refine rg (sA 3 L fun a s L=>?_);refine en' ?_;exact hKL6 a s ⟨(i3+4),L.kk,h⟩
        ·obtain ⟨h41,r42,h43,h⟩:=h;refine ra 15 (pp (fun hc_=>(ze5 (h43 hc_))) trivial) L fun a s L=>?_;refine cn L h (fun h=>?_) fun h=>?_
         ·obtain ⟨h44,h⟩:=h;refine rg (sA 3 L fun a s L=>?_);refine en' ?_;exact hKL6 a s ⟨(i3+4),L.kk,h⟩
         ·refine rA 1 L fun a s L=>?_;subst h;exact wp_ret (zdr J L J)
 ·refine wp_exit ?_;exact J2 a s (L.kk) h
def z8.j1 (r_:(List SNode)) (out2:(List SNode)):Prop:=r_=out2
def z8.j2 (L1_:(List SNode)→Int→Prop) (out5:(List SNode)) (i7:Int) (n22:SNode):Prop:=(out5.length+[n22].length≤2147483648)∧(InR .i64 (i7+1))∧L1_ (out5++[n22]) (i7+1)
def z8.j3 (L1_:(List SNode)→Int→Prop) (by_:Int) (out5:(List SNode)) (i7:Int) (n18:SNode):Prop:=((((n18.1==4)||(n18.1==5)))=true→(InR .i64 (n18.2.2.1+by_))∧(z8.j2 (L1_) out5 i7) (n18.1,n18.2.1,n18.2.2.1+by_,n18.2.2.2.1,n18.2.2.2.2.1,n18.2.2.2.2.2.1,n18.2.2.2.2.2.2))∧((((n18.1==4)||(n18.1==5)))=false→(z8.j2 (L1_) out5 i7) n18)
def z8.l1 (l_:(List SNode)) (by_:Int) (X1:(List SNode)→Prop):Nat→(List SNode)→Int→Prop
 | 0,_,_=>False
 | k_0+1,out5,i7=>((decide (i7<(l_.length:Int)))=true→∃e13:SNode,at? l_ i7=some e13∧((decide (4≤e13.1))=true→(InR .i64 (e13.2.1+by_))∧(z8.j3 (z8.l1 l_ by_ X1 k_0) by_ out5 i7) (e13.1,e13.2.1+by_,e13.2.2.1,e13.2.2.2.1,e13.2.2.2.2.1,e13.2.2.2.2.2.1,e13.2.2.2.2.2.2))∧((decide (4≤e13.1))=false→(z8.j3 (z8.l1 l_ by_ X1 k_0) by_ out5 i7) e13))∧((decide (i7<(l_.length:Int)))=false→X1 out5)
def z8 (l_:(List SNode)) (by_:Int) (r_:(List SNode)):Prop:=∃k8,z8.l1 l_ by_ (z8.j1 r_) k8 ([]:(List SNode)) 0
def zdb.j1 (d_:SDesc) (r_:Bool) (n2:Int):Prop:=∃b4:Bool,b4=((decide ((d_.length:Int)≤100))&&(decide (n2≤2000)))∧r_=b4
def zdb.l1 (d_:SDesc) (X1:Int→Prop):Nat→Int→Int→Prop
 | 0,_,_=>False
 | k_0+1,n6,i7=>∃b12:Bool,b12=((decide (i7<(d_.length:Int)))&&(decide (i7<200)))∧((b12)=true→∃e15:SNode,at? d_ i7=some e15∧(InR .i64 (n6+(e15.2.2.2.2.2.2.length:Int)))∧(InR .i64 (i7+1))∧zdb.l1 d_ X1 k_0 (n6+(e15.2.2.2.2.2.2.length:Int)) (i7+1))∧((b12)=false→X1 n6)
def zdb (d_:SDesc) (r_:Bool):Prop:=∃k8,zdb.l1 d_ (zdb.j1 d_ r_) k8 0 0
def zcj.j1 (s_:Str) (r_:Bool):Prop:=∃r3:Bool,(((decide (0<(s_.length:Int)))=true)→zbl s_ r3)∧r_=((decide (0<(s_.length:Int)))&&r3)
def zcj.l1 (s_:Str) (r_:Bool) (X1:Prop):Nat→Int→Prop
 | 0,_=>False
 | k_0+1,i5=>((decide (i5<(s_.length:Int)))=true→∃c11:Int,zd2 s_ i5=some c11∧(((c11==34))=true→r_=false)∧(((c11==34))=false→(InR .i64 (i5+1))∧zcj.l1 s_ r_ X1 k_0 (i5+1)))∧((decide (i5<(s_.length:Int)))=false→X1)
def zcj (s_:Str) (r_:Bool):Prop:=∃k6,zcj.l1 s_ r_ (zcj.j1 s_ r_) k6 0
def zu.j1 (n_:(List SNode)→Int→Int→Prop) (l_:(List SNode)) (i_:Int) (r_:Int) (e2:SNode) (want23:SNode):Prop:=(InR .i64 (i_-1))∧∃r27:Int,n_ l_ (i_-1) r27∧(((e2 != want23))=true→r_=(-1))∧(((e2 != want23))=false→r_=r27)
def zu.j2 (n_:(List SNode)→Int→Int→Prop) (l_:(List SNode)) (i_:Int) (r_:Int) (e2:SNode) (v33:Bool):Prop:=((v33)=true→(InR .i64 (i_-1))∧(InR .i64 (i_-1))∧∃r38:Int,n_ l_ (i_-1) r38∧((decide (r38<0))=true→r_=(-1))∧((decide (r38<0))=false→(InR .i64 (r38-1))∧(InR .i64 (r38-1))∧∃r43:Int,n_ l_ (r38-1) r43∧∃b46:Bool,b46=(e2 != (e2.1,r38-1,i_-1,0,0,(0#256),([]:Str)))∧((b46)=true→r_=(-1))∧((b46)=false→r_=r43)))∧((v33)=false→r_=(-1))
def zu.j3 (n_:(List SNode)→Int→Int→Prop) (l_:(List SNode)) (i_:Int) (r_:Int) (e2:SNode) (v18:Bool):Prop:=((v18)=true→(InR .i64 (i_-1))∧(((e2.1==7))=true→∃b30:Bool,b30=((decide (e2.2.2.2.1<0))||(decide (e2.2.2.2.2.1<e2.2.2.2.1)))∧(((b30||(decide (255<e2.2.2.2.2.1))))=true→r_=(-1))∧(((b30||(decide (255<e2.2.2.2.2.1))))=false→(zu.j1 (n_) l_ i_ r_ e2) (e2.1,i_-1,0,e2.2.2.2.1,e2.2.2.2.2.1,(0#256),([]:Str))))∧(((e2.1==7))=false→(zu.j1 (n_) l_ i_ r_ e2) (e2.1,i_-1,0,0,0,(0#256),([]:Str))))∧((v18)=false→(((e2.1==4))=true→(zu.j2 (n_) l_ i_ r_ e2) (e2.1==4))∧(((e2.1==4))=false→(zu.j2 (n_) l_ i_ r_ e2) (e2.1==5)))
def zu.n:Nat→(List SNode)→Int→Int→Prop
 | 0,_,_,_=>False
 | k_+1,l_,i_,r_=>((decide (i_<0))=true→r_=(-1))∧((decide (i_<0))=false→∃e2:SNode,at? l_ i_=some e2∧(((e2.1==1))=true→(((e2 != (e2.1,0,0,0,0,(0#256),([]:Str))))=true→r_=(-1))∧(((e2 != (e2.1,0,0,0,0,(0#256),([]:Str))))=false→r_=i_))∧(((e2.1==1))=false→(((e2.1==2))=true→∃b10:Bool,b10=(e2 != (e2.1,0,0,0,0,e2.2.2.2.2.2.1,([]:Str)))∧((b10)=true→r_=(-1))∧((b10)=false→r_=i_))∧(((e2.1==2))=false→(((e2.1==3))=true→∃r12:Bool,zcj e2.2.2.2.2.2.2 r12∧(((!r12))=true→r_=(-1))∧(((!r12))=false→∃b15:Bool,b15=(e2 != (e2.1,0,0,0,0,(0#256),e2.2.2.2.2.2.2))∧((b15)=true→r_=(-1))∧((b15)=false→r_=i_)))∧(((e2.1==3))=false→(((e2.1==6))=true→(zu.j3 (zu.n k_) l_ i_ r_ e2) (e2.1==6))∧(((e2.1==6))=false→(((e2.1==7))=true→(zu.j3 (zu.n k_) l_ i_ r_ e2) (e2.1==7))∧(((e2.1==7))=false→(((e2.1==8))=true→(zu.j3 (zu.n k_) l_ i_ r_ e2) (e2.1==8))∧(((e2.1==8))=false→(zu.j3 (zu.n k_) l_ i_ r_ e2) (e2.1==9))))))))
def zu (l_:(List SNode)) (i_:Int) (r_:Int):Prop:=∃k_,zu.n k_ l_ i_ r_
def zjl (d_:SDesc) (r_:Bool):Prop:=(((decide (0<(d_.length:Int)))=true)→InR .i64 ((d_.length:Int)-1))∧∃r2:Int,(((decide (0<(d_.length:Int)))=true)→zu d_ ((d_.length:Int)-1) r2)∧r_=((decide (0<(d_.length:Int)))&&(r2==0))
def zjk (kind_:Int) (a_:SDesc) (b_:SDesc) (r_:SDesc):Prop:=∃r4:(List SNode),z8 a_ 0 r4∧∃r6:(List SNode),z8 b_ (a_.length:Int) r6∧(r4.length+r6.length≤2147483648)∧(InR .i64 ((a_.length:Int)-1))∧(InR .i64 ((a_.length:Int)+(b_.length:Int)))∧(InR .i64 (((a_.length:Int)+(b_.length:Int))-1))∧((r4++r6).length+[(kind_,(a_.length:Int)-1,((a_.length:Int)+(b_.length:Int))-1,0,0,(0#256),([]:Str))].length≤2147483648)∧r_=(r4++r6)++[(kind_,(a_.length:Int)-1,((a_.length:Int)+(b_.length:Int))-1,0,0,(0#256),([]:Str))]
def zj.j1 (r_:Int) (l2:(List Int)):Prop:=((((l2.length:Int)==0))=true→r_=0)∧((((l2.length:Int)==0))=false→(InR .i64 ((l2.length:Int)-1))∧∃e7:Int,at? l2 ((l2.length:Int)-1)=some e7∧r_=e7)
def zj.j2 (L1_:(List Int)→Int→Prop) (l9:(List Int)) (i11:Int) (w48:Int):Prop:=(l9.length+[(min w48 1000)].length≤2147483648)∧(InR .i64 (i11+1))∧L1_ (l9++[(min w48 1000)]) (i11+1)
def zj.j3 (L1_:(List Int)→Int→Prop) (l9:(List Int)) (i11:Int) (e19:SNode) (a26:Int) (w44:Int):Prop:=(((e19.1==7))=true→(InR .i64 (1+(max 0 (min e19.2.2.2.2.1 1000))))∧(InR .i64 ((1+(max 0 (min e19.2.2.2.2.1 1000)))*a26))∧(zj.j2 (L1_) l9 i11) ((1+(max 0 (min e19.2.2.2.2.1 1000)))*a26))∧(((e19.1==7))=false→(zj.j2 (L1_) l9 i11) w44)
def zj.j4 (L1_:(List Int)→Int→Prop) (l9:(List Int)) (i11:Int) (e19:SNode) (a26:Int) (w40:Int):Prop:=(((((e19.1==6)||(e19.1==8))||(e19.1==9)))=true→(InR .i64 (a26+1))∧(zj.j3 (L1_) l9 i11 e19 a26) (a26+1))∧(((((e19.1==6)||(e19.1==8))||(e19.1==9)))=false→(zj.j3 (L1_) l9 i11 e19 a26) w40)
def zj.j5 (L1_:(List Int)→Int→Prop) (l9:(List Int)) (i11:Int) (e19:SNode) (a26:Int) (b32:Int) (w36:Int):Prop:=((((e19.1==4)||(e19.1==5)))=true→(InR .i64 (a26+b32))∧(zj.j4 (L1_) l9 i11 e19 a26) (a26+b32))∧((((e19.1==4)||(e19.1==5)))=false→(zj.j4 (L1_) l9 i11 e19 a26) w36)
def zj.j6 (L1_:(List Int)→Int→Prop) (l9:(List Int)) (i11:Int) (e19:SNode) (a26:Int) (b32:Int):Prop:=(((e19.1==3))=true→(InR .i64 (1+(min (e19.2.2.2.2.2.2.length:Int) 1000)))∧(zj.j5 (L1_) l9 i11 e19 a26 b32) (1+(min (e19.2.2.2.2.2.2.length:Int) 1000)))∧(((e19.1==3))=false→(zj.j5 (L1_) l9 i11 e19 a26 b32) 1)
def zj.j7 (L1_:(List Int)→Int→Prop) (l9:(List Int)) (i11:Int) (e19:SNode) (a26:Int):Prop:=∃b30:Bool,b30=((decide (0≤e19.2.2.1))&&(decide (e19.2.2.1<(l9.length:Int))))∧((b30)=true→∃e58:Int,at? l9 e19.2.2.1=some e58∧(zj.j6 (L1_) l9 i11 e19 a26) e58)∧((b30)=false→(zj.j6 (L1_) l9 i11 e19 a26) 0)
def zj.l1 (d_:SDesc) (X1:(List Int)→Prop):Nat→(List Int)→Int→Prop
 | 0,_,_=>False
 | k_0+1,l9,i11=>∃b16:Bool,b16=((decide (i11<(d_.length:Int)))&&(decide (i11<200)))∧((b16)=true→∃e19:SNode,at? d_ i11=some e19∧∃b24:Bool,b24=((decide (0≤e19.2.1))&&(decide (e19.2.1<(l9.length:Int))))∧((b24)=true→∃e60:Int,at? l9 e19.2.1=some e60∧(zj.j7 (zj.l1 d_ X1 k_0) l9 i11 e19) e60)∧((b24)=false→(zj.j7 (zj.l1 d_ X1 k_0) l9 i11 e19) 0))∧((b16)=false→X1 l9)
def zj (d_:SDesc) (r_:Int):Prop:=∃k12,zj.l1 d_ (zj.j1 r_) k12 ([]:(List Int)) 0
def zby.j1 (r_:Bool):Prop:=r_=false
def zby.l1 (d_:SDesc) (r_:Bool) (X1:Prop):Nat→Int→Prop
 | 0,_=>False
 | k_0+1,i3=>((decide (i3<(d_.length:Int)))=true→∃e9:SNode,at? d_ i3=some e9∧∃e11:SNode,((((e9.1==8))=false)→at? d_ i3=some e11)∧((((e9.1==8)||(e11.1==9)))=true→r_=true)∧((((e9.1==8)||(e11.1==9)))=false→(InR .i64 (i3+1))∧zby.l1 d_ r_ X1 k_0 (i3+1)))∧((decide (i3<(d_.length:Int)))=false→X1)
def zby (d_:SDesc) (r_:Bool):Prop:=∃k4,zby.l1 d_ r_ (zby.j1 r_) k4 0
def zgq (d_:SDesc) (ev_:SDesc) (things_:Int) (r_:Bool):Prop:=∃r1:Bool,(((decide (things_≤10))=false)→zby d_ r1)∧∃r3:Bool,((((decide (things_≤10))=false)∧((!r1))=true)→zby ev_ r3)∧r_=((decide (things_≤10))||((!r1)&&(!r3)))
set_option maxRecDepth 100000
set_option maxHeartbeats 2000000
set_option synthInstance.maxSize 100000
set_option synthInstance.maxHeartbeats 200000
theorem zj7 {l_:(List SNode)} {by_:Int} {r_:(List SNode)} (h:z8 l_ by_ r_):Fn Tryz.prog 84 [(Pd.rep (En.slice En.SNode) l_),(Pi by_)] (Ro En.SNode 68 r_):=by
 unfold z8 at h;refine zbo Tryz.func84 J Tryz.ntmps84 (by rfl) (by simp) fun s0 a L=>?_;refine rs (sno En.SNode 68 L fun a s L=>?_);refine es (rs ?_);refine sno En.SNode 68 L fun a s L=>?_;refine es (wp_seq_k fun K1 H1=>?_);refine rA 1 L fun a s L=>?_;refine wp_block ?_;have J4:∀(out2:(List SNode)) (og3:Option Nat) (a:Act) (s:St),Has N0 44 s0 a s [(5,(Pd.row En.SNode s0.w.heap.size 68 og3 out2))]→((z8.j1 r_) out2)→K1 a s.w:=by
  intro out2 og3 a s L h;unfold z8.j1 at h;show K1 a s.w;refine H1 _ _ (rA 2 L fun a s L=>?_);subst h;exact wp_ret (zf4 J L J)
 obtain ⟨k8,h⟩:=h;refine lpn (fun k9 a s=>∃(out5:(List SNode)) (i7:Int) (og6:Option Nat),Has N0 44 s0 a s [(0,(Pd.rep (En.slice En.SNode) l_)),(1,(Pi by_)),(5,(Pd.row En.SNode s0.w.heap.size 68 og6 out5)),(6,(Pi i7))]∧z8.l1 l_ by_ (z8.j1 r_) k9 out5 i7) k8 ⟨([]:(List SNode)),0,none,L.kk,h⟩ ?_;rintro k9 a s ⟨out5,i7,og6,L,h⟩ KL10 hKL10;unfold z8.l1 at h;refine wp_seq_k fun K11 H11=>rA 4 L fun a s L=>?_;refine cn L h (fun h=>?_) fun h=>?_
 ·refine wp_skip (H11 _ _ ?_);refine wp_seq_k fun K12 H12=>wp_block ?_;obtain ⟨e13,h14,h⟩:=h;refine rs (sl 4 (p1 h14) L fun a s L=>?_);have lt_d16:=L.rlt 5 rfl;refine zbb En.SNode (z:=(0,0,0,0,0,(0#256),([]:Str))) 7 L zkk J J J J fun a s g15 hg_ L=>?_;have d16:=Dis.newg hg_ lt_d16;refine sB 7 L fun s L=>?_;refine es (wp_seq_k fun K17 H17=>?_);refine rA 3 L fun a s L=>?_;have J19:∀(n18:SNode) (a:Act) (s:St),Has N0 44 s0 a s [(0,(Pd.rep (En.slice En.SNode) l_)),(1,(Pi by_)),(5,(Pd.row En.SNode s0.w.heap.size 68 og6 out5)),(6,(Pi i7)),(7,(Pd.box En.SNode s0.w.heap.size g15 n18))]→Dis og6 (some g15)→((z8.j3 (z8.l1 l_ by_ (z8.j1 r_) k9) by_ out5 i7) n18)→K17 a s.w:=by
   intro n18 a s L d20 h;unfold z8.j3 at h;show K17 a s.w;refine H17 _ _ (wp_seq_k fun K21 H21=>?_);refine rA 8 L fun a s L=>?_;have J23:∀(n22:SNode) (a:Act) (s:St),Has N0 44 s0 a s [(0,(Pd.rep (En.slice En.SNode) l_)),(1,(Pi by_)),(5,(Pd.row En.SNode s0.w.heap.size 68 og6 out5)),(6,(Pi i7)),(7,(Pd.box En.SNode s0.w.heap.size g15 n22))]→Dis og6 (some g15)→((z8.j2 (z8.l1 l_ by_ (z8.j1 r_) k9) out5 i7) n22)→K21 a s.w:=by
    intro n22 a s L d24 h;unfold z8.j2 at h;show K21 a s.w;refine H21 _ _ ?_;obtain ⟨h25,h⟩:=h;refine rg (sA 3 L fun a s L=>?_);refine zeb 42 L op op Ud.h Tq.h h25 J J J J ka fun a s og26 hg_ L=>?_;refine sA 1 L fun a s L=>?_;refine en' (H12 _ _ ?_);obtain ⟨h27,h⟩:=h;refine rg (sA 3 L fun a s L=>?_);refine en' ?_;exact hKL10 a s ⟨(out5++[n22]),(i7+1),og26,L.kk,h⟩
   refine cn L h (fun h=>?_) fun h=>?_
   ·obtain ⟨h28,h⟩:=h;refine rg (sA 5 L fun a s L=>?_);refine zea 7 L J op op (zo (zo (zbd (zp _ _ _)) J) J) Tq.h J J J ka fun s L=>?_;refine en' ?_;exact J23 (n18.1,n18.2.1,n18.2.2.1+by_,n18.2.2.2.1,n18.2.2.2.2.1,n18.2.2.2.2.2.1,n18.2.2.2.2.2.2) a s (L.kk) d20 h
   ·refine wp_skip ?_;exact J23 n18 a s (L.kk) d20 h
  refine cn L h (fun h=>?_) fun h=>?_
  ·obtain ⟨h29,h⟩:=h;refine rg (sA 5 L fun a s L=>?_);refine zea 7 L J op op (zo (zbd (zp _ _ _)) J) Tq.h J J J ka fun s L=>?_;refine en' ?_;exact J19 (e13.1,e13.2.1+by_,e13.2.2.1,e13.2.2.2.1,e13.2.2.2.2.1,e13.2.2.2.2.2.1,e13.2.2.2.2.2.2) a s (L.kk) (Dis.symm d16) h
  ·refine wp_skip ?_;exact J19 e13 a s (L.kk) (Dis.symm d16) h
 ·refine wp_exit ?_;exact J4 out5 og6 a s (L.kk) h
theorem ref04_Few_ok {d_:SDesc} {r_:Bool} (h:zdb d_ r_):Fn Tryz.prog 13 [(Pd.rep En.SDesc d_)] (Rq (Pd.rep En.bool r_)):=by
 unfold zdb at h;refine zbo Tryz.func13 J Tryz.ntmps13 (by rfl) (by simp) fun s0 a L=>?_;refine rA 2 L fun a s L=>?_;refine rA 1 L fun a s L=>?_;refine wp_seq_k fun K1 H1=>rA 1 L fun a s L=>?_;refine wp_block ?_;have J3:∀(n2:Int) (a:Act) (s:St),Has N0 33 s0 a s [(1,(Pd.ptr En.SDesc d_)),(3,(Pi n2))]→((zdb.j1 d_ r_) n2)→K1 a s.w:=by
  intro n2 a s L h;unfold zdb.j1 at h;show K1 a s.w;refine H1 _ _ ?_;obtain ⟨b4,h5,h⟩:=h;refine ra 9 (p1 h5) L fun a s L=>?_;subst h;exact wp_ret (zdr J L J)
 obtain ⟨k8,h⟩:=h;refine lpn (fun k9 a s=>∃(n6:Int) (i7:Int),Has N0 33 s0 a s [(1,(Pd.ptr En.SDesc d_)),(3,(Pi n6)),(4,(Pi i7))]∧zdb.l1 d_ (zdb.j1 d_ r_) k9 n6 i7) k8 ⟨0,0,L.kk,h⟩ ?_;rintro k9 a s ⟨n6,i7,L,h⟩ KL10 hKL10;unfold zdb.l1 at h;refine wp_seq_k fun K11 H11=>?_;obtain ⟨b12,h13,h⟩:=h;refine ra 9 (p1 h13) L fun a s L=>?_;refine cn L h (fun h=>?_) fun h=>?_
 ·refine wp_skip (H11 _ _ ?_);refine wp_seq_k fun K14 H14=>wp_block ?_;obtain ⟨e15,h16,h17,h⟩:=h;refine rg (sl 10 (p1 h16) L fun a s L=>?_);refine en' (H14 _ _ ?_);obtain ⟨h18,h⟩:=h;refine rg (sA 3 L fun a s L=>?_);refine en' ?_;exact hKL10 a s ⟨(n6+(e15.2.2.2.2.2.2.length:Int)),(i7+1),L.kk,h⟩
 ·refine wp_exit ?_;exact J3 n6 a s (L.kk) h
theorem zrb {s_:Str} {r_:Bool} (h:zcj s_ r_):Fn Tryz.prog 114 [(Pd.rep En.str s_)] (Rq (Pd.rep En.bool r_)):=by
 unfold zcj at h;refine zbo Tryz.func114 J Tryz.ntmps114 (by rfl) (by simp) fun s0 a L=>?_;refine rA 1 L fun a s L=>?_;refine wp_seq_k fun K1 H1=>rA 1 L fun a s L=>?_;refine wp_block ?_;have J2:∀(a:Act) (s:St),Has N0 21 s0 a s [(0,(Pd.rep En.str s_))]→((zcj.j1 s_ r_))→K1 a s.w:=by
  intro a s L h;unfold zcj.j1 at h;show K1 a s.w;refine H1 _ _ ?_;obtain ⟨r3,h4,h⟩:=h;refine ra 8 (pp (fun hc_=>(zre (h4 hc_))) trivial) L fun a s L=>?_;subst h;exact wp_ret (zdr J L J)
 obtain ⟨k6,h⟩:=h;refine lpn (fun k7 a s=>∃(i5:Int),Has N0 21 s0 a s [(0,(Pd.rep En.str s_)),(3,(Pi i5))]∧zcj.l1 s_ r_ (zcj.j1 s_ r_) k7 i5) k6 ⟨0,L.kk,h⟩ ?_;rintro k7 a s ⟨i5,L,h⟩ KL8 hKL8;unfold zcj.l1 at h;refine wp_seq_k fun K9 H9=>rA 4 L fun a s L=>?_;refine cn L h (fun h=>?_) fun h=>?_
 ·refine wp_skip (H9 _ _ ?_);refine wp_seq_k fun K10 H10=>wp_block ?_;obtain ⟨c11,h12,h⟩:=h;refine ra 4 (p1 h12) L fun a s L=>?_;refine cn L h (fun h=>?_) fun h=>?_
  ·refine rA 1 L fun a s L=>?_;subst h;exact wp_ret (zdr J L J)
  ·refine wp_skip (H10 _ _ ?_);obtain ⟨h13,h⟩:=h;refine rg (sA 3 L fun a s L=>?_);refine en' ?_;exact hKL8 a s ⟨(i5+1),L.kk,h⟩
 ·refine wp_exit ?_;exact J2 a s (L.kk) h
theorem zu.n_ok (k_:Nat):∀{l_:(List SNode)} {i_:Int} {r_:Int} (h:zu.n k_ l_ i_ r_),Fn Tryz.prog 85 [(Pd.rep (En.slice En.SNode) l_),(Pi i_)] (Rq (Pi r_)):=by
 induction k_ with
 | zero=>intro l_ i_ r_ h;exact h.elim
 | succ k_ ih_=>
 intro l_ i_ r_ h;unfold zu.n at h;refine zbo Tryz.func85 J Tryz.ntmps85 (by rfl) (by simp) fun s0 a L=>?_;refine rA 1 L fun a s L=>?_;refine wp_seq_k fun K1 H1=>rA 2 L fun a s L=>?_;refine cn L h (fun h=>?_) fun h=>?_
 ·refine rA 1 L fun a s L=>?_;subst h;exact wp_ret (zdr J L J)
 ·refine wp_skip (H1 _ _ ?_);obtain ⟨e2,h3,h⟩:=h;refine rs (sl 4 (p1 h3) L fun a s L=>?_);refine zbb En.SNode (z:=(0,0,0,0,0,(0#256),([]:Str))) 5 L zkk J J J J fun a s g4 hg_ L=>?_;refine sB 5 L fun s L=>?_;refine es (rs ?_);refine sA 2 L fun a s L=>?_;refine sv (zb3 (x:=(e2.1,0,0,0,0,(0#256),([]:Str))) (ps:=[(0,.tmp 16)]) zkk J stt68 (.cons (i:=0) op J (zbd (zp _ _ _)) .nil) J J) L fun a s L=>?_;have lt_d6:=L.blt 5 rfl;refine zbb En.SNode (z:=(0,0,0,0,0,(0#256),([]:Str))) 6 L zkk J J J J fun a s g5 hg_ L=>?_;have d6:=Dis.newg hg_ lt_d6;refine sB 6 L fun s L=>?_;refine es (rA 2 L fun a s L=>?_);refine wp_seq_k fun K7 H7=>rA 2 L fun a s L=>?_;refine wp_block (rA 2 L fun a s L=>?_);refine cn L h (fun h=>?_) fun h=>?_
  ·refine wp_skip (H7 _ _ ?_);refine wp_seq_k fun K8 H8=>rs (sA 2 L fun a s L=>?_);refine sv (t_nev eq68 op op J J) L fun a s L=>?_;refine es (cn L h (fun h=>?_) fun h=>?_)
   ·refine rA 1 L fun a s L=>?_;subst h;exact wp_ret (zdr J L J)
   ·refine wp_skip (H8 _ _ ?_);refine rA 2 L fun a s L=>?_;subst h;exact wp_ret (zdr J L J)
  ·refine rA 2 L fun a s L=>?_;refine cn L h (fun h=>?_) fun h=>?_
   ·refine rg ?_;refine sA 3 L fun a s L=>?_;refine zea 6 L J op op (zo (zo (zo (zo (zo (zbd (zp _ _ _)) J) J) J) J) J) Tq.h J J J ka fun s L=>?_;refine en' (H7 _ _ ?_);refine wp_seq_k fun K9 H9=>?_;obtain ⟨b10,h11,h⟩:=h;refine rs (sA 2 L fun a s L=>?_);refine sv (h11 ▸ (t_nev eq68 op op J J)) L fun a s L=>?_;refine es (cn L h (fun h=>?_) fun h=>?_)
    ·refine rA 1 L fun a s L=>?_;subst h;exact wp_ret (zdr J L J)
    ·refine wp_skip (H9 _ _ ?_);refine rA 2 L fun a s L=>?_;subst h;exact wp_ret (zdr J L J)
   ·refine rA 2 L fun a s L=>?_;refine cn L h (fun h=>?_) fun h=>?_
    ·refine rs ?_;refine sA 3 L fun a s L=>?_;refine zea 6 L J op op (zo (zo (zo (zo (zo (zo (zp _ _ _) J) J) J) J) J) J) Tq.h J J J ka fun s L=>?_;refine es ?_;obtain ⟨r12,h13,h⟩:=h;refine ra 4 (p1 (zrb h13)) L fun a s L=>?_;refine cn L h (fun h=>?_) fun h=>?_
     ·refine rA 1 L fun a s L=>?_;subst h;exact wp_ret (zdr J L J)
     ·refine wp_skip (H7 _ _ ?_);refine wp_seq_k fun K14 H14=>?_;obtain ⟨b15,h16,h⟩:=h;refine rs (sA 2 L fun a s L=>?_);refine sv (h16 ▸ (t_nev eq68 op op J J)) L fun a s L=>?_;refine es (cn L h (fun h=>?_) fun h=>?_)
      ·refine rA 1 L fun a s L=>?_;subst h;exact wp_ret (zdr J L J)
      ·refine wp_skip (H14 _ _ ?_);refine rA 2 L fun a s L=>?_;subst h;exact wp_ret (zdr J L J)
    ·refine wp_seq_k fun K17 H17=>?_;refine rA 2 L fun a s L=>?_;have J19:∀(v18:Bool) (a:Act) (s:St),Has N0 96 s0 a s [(0,(Pd.rep (En.slice En.SNode) l_)),(1,(Pi i_)),(5,(Pd.box En.SNode s0.w.heap.size g4 e2)),(6,(Pd.box En.SNode s0.w.heap.size g5 (e2.1,0,0,0,0,(0#256),([]:Str)))),(20,(Pi e2.1)),(37,(Pd.rep En.bool v18))]→Dis (some g4) (some g5)→((zu.j3 (zu.n k_) l_ i_ r_ e2) v18)→K17 a s.w:=by
      intro v18 a s L d20 h;unfold zu.j3 at h;show K17 a s.w;refine H17 _ _ (cn L h (fun h=>?_) fun h=>?_)
      ·obtain ⟨h21,h⟩:=h;refine rs (sA 3 L fun a s L=>?_);refine zea 6 L J op op (zo (zbd (zp _ _ _)) J) Tq.h J J J ka fun s L=>?_;refine es (wp_seq_k fun K22 H22=>?_);refine rA 3 L fun a s L=>?_;have J24:∀(want23:SNode) (a:Act) (s:St),Has N0 96 s0 a s [(0,(Pd.rep (En.slice En.SNode) l_)),(1,(Pi i_)),(5,(Pd.box En.SNode s0.w.heap.size g4 e2)),(6,(Pd.box En.SNode s0.w.heap.size g5 want23))]→Dis (some g4) (some g5)→((zu.j1 (zu.n k_) l_ i_ r_ e2) want23)→K22 a s.w:=by
        intro want23 a s L d25 h;unfold zu.j1 at h;show K22 a s.w;refine H22 _ _ ?_;obtain ⟨h26,r27,h28,h⟩:=h;refine rg (sl 5 (p1 (ih_ h28)) L fun a s L=>?_);refine en' (H7 _ _ ?_);refine wp_seq_k fun K29 H29=>rs (sA 2 L fun a s L=>?_);refine sv (t_nev eq68 op op J J) L fun a s L=>?_;refine es (cn L h (fun h=>?_) fun h=>?_)
        ·refine rA 1 L fun a s L=>?_;subst h;exact wp_ret (zdr J L J)
        ·refine wp_skip (H29 _ _ ?_);refine rA 2 L fun a s L=>?_;subst h;exact wp_ret (zdr J L J)
       refine cn L h (fun h=>?_) fun h=>?_
       ·refine rs ?_;refine sA 3 L fun a s L=>?_;refine zea 6 L J op op (zo (zo (zo (zbd (zp _ _ _)) J) J) J) Tq.h J J J ka fun s L=>?_;refine es (rs ?_);refine sA 3 L fun a s L=>?_;refine zea 6 L J op op (zo (zo (zo (zo (zbd (zp _ _ _)) J) J) J) J) Tq.h J J J ka fun s L=>?_;refine es ?_;obtain ⟨b30,h31,h⟩:=h;refine ra 15 (p1 h31) L fun a s L=>?_;refine cn L h (fun h=>?_) fun h=>?_
        ·refine rA 1 L fun a s L=>?_;subst h;exact wp_ret (zdr J L J)
        ·refine wp_skip ?_;exact J24 (e2.1,i_-1,0,e2.2.2.2.1,e2.2.2.2.2.1,(0#256),([]:Str)) a s (L.kk) d20 h
       ·refine wp_skip ?_;exact J24 (e2.1,i_-1,0,0,0,(0#256),([]:Str)) a s (L.kk) d20 h
      ·refine wp_seq_k fun K32 H32=>?_;refine rA 2 L fun a s L=>?_;have J34:∀(v33:Bool) (a:Act) (s:St),Has N0 96 s0 a s [(0,(Pd.rep (En.slice En.SNode) l_)),(1,(Pi i_)),(5,(Pd.box En.SNode s0.w.heap.size g4 e2)),(6,(Pd.box En.SNode s0.w.heap.size g5 (e2.1,0,0,0,0,(0#256),([]:Str)))),(73,(Pd.rep En.bool v33))]→Dis (some g4) (some g5)→((zu.j2 (zu.n k_) l_ i_ r_ e2) v33)→K32 a s.w:=by
        intro v33 a s L d35 h;unfold zu.j2 at h;show K32 a s.w;refine H32 _ _ (cn L h (fun h=>?_) fun h=>?_)
        ·obtain ⟨h36,h⟩:=h;refine rs (sA 3 L fun a s L=>?_);refine zea 6 L J op op (zo (zo (zbd (zp _ _ _)) J) J) Tq.h J J J ka fun s L=>?_;refine es ?_;obtain ⟨h37,r38,h39,h⟩:=h;refine ra 5 (p1 (ih_ h39)) L fun a s L=>?_;refine wp_seq_k fun K40 H40=>rA 2 L fun a s L=>?_;refine cn L h (fun h=>?_) fun h=>?_
         ·refine rA 1 L fun a s L=>?_;subst h;exact wp_ret (zdr J L J)
         ·refine wp_skip (H40 _ _ ?_);obtain ⟨h41,h⟩:=h;refine rs (sA 3 L fun a s L=>?_);refine zea 6 L J op op (zo (zbd (zp _ _ _)) J) Tq.h J J J ka fun s L=>?_;refine es ?_;obtain ⟨h42,r43,h44,h⟩:=h;refine rg (sl 5 (p1 (ih_ h44)) L fun a s L=>?_);refine en' (H7 _ _ ?_);refine wp_seq_k fun K45 H45=>?_;obtain ⟨b46,h47,h⟩:=h;refine rs (sA 2 L fun a s L=>?_);refine sv (h47 ▸ (t_nev eq68 op op J J)) L fun a s L=>?_;refine es (cn L h (fun h=>?_) fun h=>?_)
          ·refine rA 1 L fun a s L=>?_;subst h;exact wp_ret (zdr J L J)
          ·refine wp_skip (H45 _ _ ?_);refine rA 2 L fun a s L=>?_;subst h;exact wp_ret (zdr J L J)
        ·refine rA 1 L fun a s L=>?_;subst h;exact wp_ret (zdr J L J)
       refine cn L h (fun h=>?_) fun h=>?_
       ·refine wp_skip ?_;exact J34 (e2.1==4) a s (L.kk) d20 h
       ·refine rg ?_;refine sA 2 L fun a s L=>?_;refine en' ?_;exact J34 (e2.1==5) a s (L.kk) d20 h
     refine cn L h (fun h=>?_) fun h=>?_
     ·refine wp_skip ?_;exact J19 (e2.1==6) a s (L.kk) (Dis.symm d6) h
     ·refine rA 2 L fun a s L=>?_;refine cn L h (fun h=>?_) fun h=>?_
      ·refine wp_skip ?_;exact J19 (e2.1==7) a s (L.kk) (Dis.symm d6) h
      ·refine rA 2 L fun a s L=>?_;refine cn L h (fun h=>?_) fun h=>?_
       ·refine wp_skip ?_;exact J19 (e2.1==8) a s (L.kk) (Dis.symm d6) h
       ·refine rg ?_;refine sA 2 L fun a s L=>?_;refine en' ?_;exact J19 (e2.1==9) a s (L.kk) (Dis.symm d6) h
theorem zpk {l_:(List SNode)} {i_:Int} {r_:Int} (h:zu l_ i_ r_):Fn Tryz.prog 85 [(Pd.rep (En.slice En.SNode) l_),(Pi i_)] (Rq (Pi r_)):=by
 obtain ⟨k_,h⟩:=h;exact zu.n_ok k_ h
theorem zrd {d_:SDesc} {r_:Bool} (h:zjl d_ r_):Fn Tryz.prog 49 [(Pd.rep En.SDesc d_)] (Rq (Pd.rep En.bool r_)):=by
 unfold zjl at h;refine zbo Tryz.func49 J Tryz.ntmps49 (by rfl) (by simp) fun s0 a L=>?_;refine rA 2 L fun a s L=>?_;obtain ⟨h1,r2,h3,h⟩:=h;refine ra 15 (pp (fun hc_=>(zpk (h3 hc_))) trivial) L fun a s L=>?_;subst h;exact wp_ret (zdr J L J)
theorem zrc {kind_:Int} {a_:SDesc} {b_:SDesc} {r_:SDesc} (h:zjk kind_ a_ b_ r_):Fn Tryz.prog 73 [(Pi kind_),(Pd.rep En.SDesc a_),(Pd.rep En.SDesc b_)] (Rq (Pd.rep En.SDesc r_)):=by
 unfold zjk at h;refine zbo Tryz.func73 J Tryz.ntmps73 (by rfl) (by simp) fun s0 a L=>?_;refine rs (sA 2 L fun a s L=>?_);refine zbb En.SDesc (z:=[]) 6 L zqp J J J J fun a s g1 hg_ L=>?_;refine es ?_;obtain ⟨r4,h5,r6,h7,h10,h⟩:=h;refine wp_seq ?_;obtain ⟨K2,H2,nK2,L⟩:=L.mark 999983;have lt3:∀k,(some g1)=some k→k<K2:=by rw [H2];exact L.blt 6 rfl
 refine rda zdq 9 [(Pd.ptr (En.slice En.SNode) a_),(Pd.rep (En.slice En.SNode) a_),(Pd.erow En.SNode s0.w.heap.size K2 68 r4),(Pd.ptr (En.slice En.SNode) b_),(Pd.rep (En.slice En.SNode) b_),(Pd.ptr (En.slice En.SNode) a_),(Pd.rep (En.slice En.SNode) a_),(Pi (a_.length:Int)),(Pd.rep (En.slice En.SNode) r6)] L (by kernel_rfl) J J ?_ ?_
 ·refine zbe.cons (zir (off:=0) (O 4 J) U24 J (zjn (z6 _ _)) J ty22 J J) ?_;refine zbe.cons (zb2 ty22 (O 8 J) J J) ?_;refine zbe.cons (t_callox (K:=K2) (m:=999983) J nK2 (zj7 h5) (xs:=[.tmp 9,.const (.int .i64 0)]) (.cons (O 9 J) (.cons oI .nil)) J J) ?_;refine zbe.cons (zir (off:=0) (O 5 J) U24 J (zjn (z6 _ _)) J ty22 J J) ?_;refine zbe.cons (zb2 ty22 (O 11 J) J J) ?_;refine zbe.cons (zir (off:=0) (O 4 J) U24 J (zjn (z6 _ _)) J ty22 J J) ?_;refine zbe.cons (zb2 ty22 (O 13 J) J J) ?_;refine zbe.cons (znk (O 14 J) U22 J J) ?_;refine zbe.cons (zeu ((zj7 h7).frz) (xs:=[.tmp 12,.tmp 15]) (.cons (O 12 J) (.cons (O 15 J) .nil)) J J) ?_;exact zbe.nil
 intro a s _ L;obtain ⟨og8,hg_,L⟩:=L.openr 10 rfl;have d9:=Dis.new hg_ lt3;replace L:=L.kk (L':=[(0,(Pi kind_)),(4,(Pd.ptr En.SDesc a_)),(5,(Pd.ptr En.SDesc b_)),(6,(Pd.box En.SDesc s0.w.heap.size g1 [])),(10,(Pd.row En.SNode s0.w.heap.size 68 og8 r4)),(16,(Pd.rep (En.slice En.SNode) r6))]);refine dp ?_;have lt_og11_0:=L.blt 6 rfl;refine zeb 17 L op op Ud.h Tq.h h10 J J J J ka fun a s og11 hg_ L=>?_;have d12:=Dis.app hg_ d9 lt_og11_0;refine sA 1 L fun a s L=>?_;refine es ?_;obtain ⟨h13,h14,h15,h16,h⟩:=h;refine rs (sA 14 L fun a s L=>?_);refine sv (zb3 (x:=(kind_,(a_.length:Int)-1,((a_.length:Int)+(b_.length:Int))-1,0,0,(0#256),([]:Str))) (ps:=[(0,.tmp 19),(1,.tmp 23),(2,.tmp 31)]) zkk J stt68 (.cons (i:=0) op J (zbd (zp _ _ _)) (.cons (i:=1) op J (zo (zbd (zp _ _ _)) J) (.cons (i:=2) op J (zo (zo (zbd (zp _ _ _)) J) J) .nil))) J J) L fun a s L=>?_;refine sA 1 L fun a s L=>?_;have lt_og17_0:=L.blt 6 rfl;refine zeb 34 L op op Ud.h Tq.h h16 J J J J ka fun a s og17 hg_ L=>?_;have d18:=Dis.app hg_ d12 lt_og17_0;refine fzl 34 L fun s L=>?_;refine sv (zb3 (x:=(r4++r6)++[(kind_,(a_.length:Int)-1,((a_.length:Int)+(b_.length:Int))-1,0,0,(0#256),([]:Str))]) (ps:=[(0,.tmp 34)]) zqp J stt24 (.cons (i:=0) op J (zkn (zp _ _ _)) .nil) J J) L fun a s L=>?_;refine sB 6 L fun s L=>?_;refine es ?_;subst h;exact wp_ret (retb J ty24 L J)
theorem zn3 {d_:SDesc} {r_:Int} (h:zj d_ r_):Fn Tryz.prog 74 [(Pd.rep En.SDesc d_)] (Rq (Pi r_)):=by
 unfold zj at h;refine zbo Tryz.func74 J Tryz.ntmps74 (by rfl) (by simp) fun s0 a L=>?_;refine rA 2 L fun a s L=>?_;refine rs (sno (En.int .i64) 3 L fun a s L=>?_);refine es (wp_seq_k fun K1 H1=>?_);refine rA 1 L fun a s L=>?_;refine wp_block ?_;have J4:∀(l2:(List Int)) (og3:Option Nat) (a:Act) (s:St),Has N0 113 s0 a s [(3,(Pd.row (En.int .i64) s0.w.heap.size 3 og3 l2))]→((zj.j1 r_) l2)→K1 a s.w:=by
  intro l2 og3 a s L h;unfold zj.j1 at h;show K1 a s.w;refine H1 _ _ (wp_seq_k fun K5 H5=>?_);refine rA 3 L fun a s L=>?_;refine cn L h (fun h=>?_) fun h=>?_
  ·refine rA 1 L fun a s L=>?_;subst h;exact wp_ret (zdr J L J)
  ·refine wp_skip (H5 _ _ ?_);obtain ⟨h6,e7,h8,h⟩:=h;refine ra 7 (p1 h8) L fun a s L=>?_;subst h;exact wp_ret (zdr J L J)
 obtain ⟨k12,h⟩:=h;refine lpn (fun k13 a s=>∃(l9:(List Int)) (i11:Int) (og10:Option Nat),Has N0 113 s0 a s [(1,(Pd.ptr En.SDesc d_)),(3,(Pd.row (En.int .i64) s0.w.heap.size 3 og10 l9)),(4,(Pi i11))]∧zj.l1 d_ (zj.j1 r_) k13 l9 i11) k12 ⟨([]:(List Int)),0,none,L.kk,h⟩ ?_;rintro k13 a s ⟨l9,i11,og10,L,h⟩ KL14 hKL14;unfold zj.l1 at h;refine wp_seq_k fun K15 H15=>?_;obtain ⟨b16,h17,h⟩:=h;refine ra 9 (p1 h17) L fun a s L=>?_;refine cn L h (fun h=>?_) fun h=>?_
 ·refine wp_skip (H15 _ _ ?_);refine wp_seq_k fun K18 H18=>wp_block ?_;obtain ⟨e19,h20,h⟩:=h;refine rs (sl 5 (p1 h20) L fun a s L=>?_);have lt_d22:=L.rlt 3 rfl;refine zbb En.SNode (z:=(0,0,0,0,0,(0#256),([]:Str))) 5 L zkk J J J J fun a s g21 hg_ L=>?_;have d22:=Dis.newg hg_ lt_d22;refine sB 5 L fun s L=>?_;refine es (rA 1 L fun a s L=>?_);refine rA 1 L fun a s L=>?_;refine wp_seq_k fun K23 H23=>?_;obtain ⟨b24,h25,h⟩:=h;refine ra 10 (p1 h25) L fun a s L=>?_;have J27:∀(a26:Int) (a:Act) (s:St),Has N0 113 s0 a s [(1,(Pd.ptr En.SDesc d_)),(3,(Pd.row (En.int .i64) s0.w.heap.size 3 og10 l9)),(4,(Pi i11)),(5,(Pd.box En.SNode s0.w.heap.size g21 e19)),(6,(Pi a26)),(7,(Pi 0))]→Dis og10 (some g21)→((zj.j7 (zj.l1 d_ (zj.j1 r_) k13) l9 i11 e19) a26)→K23 a s.w:=by
   intro a26 a s L d28 h;unfold zj.j7 at h;show K23 a s.w;refine H23 _ _ (wp_seq_k fun K29 H29=>?_);obtain ⟨b30,h31,h⟩:=h;refine ra 10 (p1 h31) L fun a s L=>?_;have J33:∀(b32:Int) (a:Act) (s:St),Has N0 113 s0 a s [(1,(Pd.ptr En.SDesc d_)),(3,(Pd.row (En.int .i64) s0.w.heap.size 3 og10 l9)),(4,(Pi i11)),(5,(Pd.box En.SNode s0.w.heap.size g21 e19)),(6,(Pi a26)),(7,(Pi b32))]→Dis og10 (some g21)→((zj.j6 (zj.l1 d_ (zj.j1 r_) k13) l9 i11 e19 a26) b32)→K29 a s.w:=by
    intro b32 a s L d34 h;unfold zj.j6 at h;show K29 a s.w;refine H29 _ _ (rA 1 L fun a s L=>?_);refine wp_seq_k fun K35 H35=>rA 3 L fun a s L=>?_;have J37:∀(w36:Int) (a:Act) (s:St),Has N0 113 s0 a s [(1,(Pd.ptr En.SDesc d_)),(3,(Pd.row (En.int .i64) s0.w.heap.size 3 og10 l9)),(4,(Pi i11)),(5,(Pd.box En.SNode s0.w.heap.size g21 e19)),(6,(Pi a26)),(7,(Pi b32)),(8,(Pi w36))]→Dis og10 (some g21)→((zj.j5 (zj.l1 d_ (zj.j1 r_) k13) l9 i11 e19 a26 b32) w36)→K35 a s.w:=by
     intro w36 a s L d38 h;unfold zj.j5 at h;show K35 a s.w;refine H35 _ _ (wp_seq_k fun K39 H39=>?_);refine rA 8 L fun a s L=>?_;have J41:∀(w40:Int) (a:Act) (s:St),Has N0 113 s0 a s [(1,(Pd.ptr En.SDesc d_)),(3,(Pd.row (En.int .i64) s0.w.heap.size 3 og10 l9)),(4,(Pi i11)),(5,(Pd.box En.SNode s0.w.heap.size g21 e19)),(6,(Pi a26)),(8,(Pi w40))]→Dis og10 (some g21)→((zj.j4 (zj.l1 d_ (zj.j1 r_) k13) l9 i11 e19 a26) w40)→K39 a s.w:=by
      intro w40 a s L d42 h;unfold zj.j4 at h;show K39 a s.w;refine H39 _ _ (wp_seq_k fun K43 H43=>?_);refine rA 13 L fun a s L=>?_;have J45:∀(w44:Int) (a:Act) (s:St),Has N0 113 s0 a s [(1,(Pd.ptr En.SDesc d_)),(3,(Pd.row (En.int .i64) s0.w.heap.size 3 og10 l9)),(4,(Pi i11)),(5,(Pd.box En.SNode s0.w.heap.size g21 e19)),(6,(Pi a26)),(8,(Pi w44))]→Dis og10 (some g21)→((zj.j3 (zj.l1 d_ (zj.j1 r_) k13) l9 i11 e19 a26) w44)→K43 a s.w:=by
       intro w44 a s L d46 h;unfold zj.j3 at h;show K43 a s.w;refine H43 _ _ (wp_seq_k fun K47 H47=>?_);refine rA 3 L fun a s L=>?_;have J49:∀(w48:Int) (a:Act) (s:St),Has N0 113 s0 a s [(1,(Pd.ptr En.SDesc d_)),(3,(Pd.row (En.int .i64) s0.w.heap.size 3 og10 l9)),(4,(Pi i11)),(8,(Pi w48))]→((zj.j2 (zj.l1 d_ (zj.j1 r_) k13) l9 i11) w48)→K47 a s.w:=by
        intro w48 a s L h;unfold zj.j2 at h;show K47 a s.w;refine H47 _ _ ?_;obtain ⟨h50,h⟩:=h;refine rg (sA 4 L fun a s L=>?_);refine zeb 103 L op op Ud.h Tq.h h50 J J J J ka fun a s og51 hg_ L=>?_;refine sA 1 L fun a s L=>?_;refine en' (H18 _ _ ?_);obtain ⟨h52,h⟩:=h;refine rg (sA 3 L fun a s L=>?_);refine en' ?_;exact hKL14 a s ⟨(l9++[(min w48 1000)]),(i11+1),og51,L.kk,h⟩
       refine cn L h (fun h=>?_) fun h=>?_
       ·obtain ⟨h53,h54,h⟩:=h;refine rg (sA 8 L fun a s L=>?_);refine en' ?_;exact J49 ((1+(max 0 (min e19.2.2.2.2.1 1000)))*a26) a s (L.kk) h
       ·refine wp_skip ?_;exact J49 w44 a s (L.kk) h
      refine cn L h (fun h=>?_) fun h=>?_
      ·obtain ⟨h55,h⟩:=h;refine rg (sA 3 L fun a s L=>?_);refine en' ?_;exact J45 (a26+1) a s (L.kk) d42 h
      ·refine wp_skip ?_;exact J45 w40 a s (L.kk) d42 h
     refine cn L h (fun h=>?_) fun h=>?_
     ·obtain ⟨h56,h⟩:=h;refine rg (sA 4 L fun a s L=>?_);refine en' ?_;exact J41 (a26+b32) a s (L.kk) d38 h
     ·refine wp_skip ?_;exact J41 w36 a s (L.kk) d38 h
    refine cn L h (fun h=>?_) fun h=>?_
    ·obtain ⟨h57,h⟩:=h;refine rg (sA 6 L fun a s L=>?_);refine en' ?_;exact J37 (1+(min (e19.2.2.2.2.2.2.length:Int) 1000)) a s (L.kk) d34 h
    ·refine wp_skip ?_;exact J37 1 a s (L.kk) d34 h
   refine cn L h (fun h=>?_) fun h=>?_
   ·obtain ⟨e58,h59,h⟩:=h;refine rg (sl 6 (p1 h59) L fun a s L=>?_);refine en' ?_;exact J33 e58 a s (L.kk) d28 h
   ·refine wp_skip ?_;exact J33 0 a s (L.kk) d28 h
  refine cn L h (fun h=>?_) fun h=>?_
  ·obtain ⟨e60,h61,h⟩:=h;refine rg (sl 6 (p1 h61) L fun a s L=>?_);refine en' ?_;exact J27 e60 a s (L.kk) (Dis.symm d22) h
  ·refine wp_skip ?_;exact J27 0 a s (L.kk) (Dis.symm d22) h
 ·refine wp_exit ?_;exact J4 l9 og10 a s (L.kk) h
theorem zj8 {d_:SDesc} {r_:Bool} (h:zby d_ r_):Fn Tryz.prog 75 [(Pd.rep En.SDesc d_)] (Rq (Pd.rep En.bool r_)):=by
 unfold zby at h;refine zbo Tryz.func75 J Tryz.ntmps75 (by rfl) (by simp) fun s0 a L=>?_;refine rA 2 L fun a s L=>?_;refine wp_seq_k fun K1 H1=>rA 1 L fun a s L=>?_;refine wp_block ?_;have J2:∀(a:Act) (s:St),Has N0 27 s0 a s []→((zby.j1 r_))→K1 a s.w:=by
  intro a s L h;unfold zby.j1 at h;show K1 a s.w;refine H1 _ _ (rA 1 L fun a s L=>?_);subst h;exact wp_ret (zdr J L J)
 obtain ⟨k4,h⟩:=h;refine lpn (fun k5 a s=>∃(i3:Int),Has N0 27 s0 a s [(1,(Pd.ptr En.SDesc d_)),(3,(Pi i3))]∧zby.l1 d_ r_ (zby.j1 r_) k5 i3) k4 ⟨0,L.kk,h⟩ ?_;rintro k5 a s ⟨i3,L,h⟩ KL6 hKL6;unfold zby.l1 at h;refine wp_seq_k fun K7 H7=>rA 5 L fun a s L=>?_;refine cn L h (fun h=>?_) fun h=>?_
 ·refine wp_skip (H7 _ _ ?_);refine wp_seq_k fun K8 H8=>wp_block ?_;obtain ⟨e9,h10,e11,h12,h⟩:=h;refine ra 16 (pp h10 (p1 h12)) L fun a s L=>?_;refine cn L h (fun h=>?_) fun h=>?_
  ·refine rA 1 L fun a s L=>?_;subst h;exact wp_ret (zdr J L J)
  ·refine wp_skip (H8 _ _ ?_);obtain ⟨h13,h⟩:=h;refine rg (sA 3 L fun a s L=>?_);refine en' ?_;exact hKL6 a s ⟨(i3+1),L.kk,h⟩
 ·refine wp_exit ?_;exact J2 a s (L.kk) h
theorem zpj {d_:SDesc} {ev_:SDesc} {things_:Int} {r_:Bool} (h:zgq d_ ev_ things_ r_):Fn Tryz.prog 39 [(Pd.rep En.SDesc d_),(Pd.rep En.SDesc ev_),(Pi things_)] (Rq (Pd.rep En.bool r_)):=by
 unfold zgq at h;refine zbo Tryz.func39 J Tryz.ntmps39 (by rfl) (by simp) fun s0 a L=>?_;refine rA 3 L fun a s L=>?_;obtain ⟨r1,h2,r3,h4,h⟩:=h;refine ra 13 (pp (fun hc_=>(zj8 (h2 hc_))) (pp (fun hc_=>(zj8 (h4 hc_))) trivial)) L fun a s L=>?_;subst h;exact wp_ret (zdr J L J)
end Go.Proofs.YtahgmdbioafmbaaGreatDoor.V
