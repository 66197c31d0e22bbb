/-
  The texts that the law's proof needs, part 2.
-/
import Derived.BigCall
import Derived.Lib.AppendIntMem
import Derived.Lib.ItoaLen
import Derived.Lib.ItoaNum
import Derived.Shelf.LaysM
import Derived.Shelf.SlLaysF
import Derived.Shelf.SlLaysF0
import Derived.Shelf.Strconv.Itoa3
import Derived.Shelf.Strings.BuilderK
import Derived.WalkKit
import Derived.Test.YtahgmdbioafmbaaGreatDoorSetsAfterP1

namespace Go.Proofs.YtahgmdbioafmbaaGreatDoor.V
open Go
set_option linter.unusedVariables false
abbrev SItem:Type:=Int × Int × Int × Int
abbrev SNode:Type:=Int × Int × Int × Int × Int × Cl × Str
abbrev SDesc:Type:=(List SNode)
abbrev SBranch:Type:=(List SItem) × Int
abbrev Sstep_next:Type:=SNode × SItem × Int
def nums4 (x:SItem):List Int:=[x.1,x.2.1,x.2.2.1,x.2.2.2]
def numsS (s:List SItem):List Int:=s.flatMap nums4
def keyN (l:List Int):Str:=l.flatMap fun n=>Lib.itoa n++[32]
def keyS (s:List SItem):Str:=keyN (numsS s)
def item_Key (s:List SItem) (r:Str):Prop:=s.length≤1000∧r=keyS s
def zdf (x:List SItem) (n:Int) (r:List SItem):Prop:=0≤n∧n≤2147483648∧r=[]
def sgnI (x y:Int):Int:=if x<y then -1 else if y<x then 1 else 0
def lexI:List Int→List Int→Int
 | x::a,y::b=>if x<y then -1 else if y<x then 1 else lexI a b
 | _,_=>0
def fstNZ:List Int→Int
 | []=>0
 | x::l=>if x≠0 then x else fstNZ l
def numsL (s:List SItem):List Int:=(s.length:Int)::numsS s
def cmpItem (x y:SItem):Int:=fstNZ [sgnI x.1 y.1,sgnI x.2.1 y.2.1,sgnI x.2.2.1 y.2.2.1,sgnI x.2.2.2 y.2.2.2]
def cmpS (a b:List SItem):Int:=lexI (numsL a) (numsL b)
def formI (d:List SNode) (x:SItem):Bool:=
 if x.1=5 then (x.2.1==0&&x.2.2.2==0)&&(decide (0≤x.2.2.1)&&decide (x.2.2.1≤65535))
 else match at? d x.2.1 with
  | none=>false
  | some n=>
   if x.1=1 then x.2.2.1==0&&x.2.2.2==0
   else if x.1=2 then ((n.1==7&&decide (0≤x.2.2.1))&&decide (x.2.2.1≤x.2.2.2))&&decide (x.2.2.2≤n.2.2.2.2.1)
   else if x.1=3 then ((n.1==3&&x.2.2.2==0)&&decide (0≤x.2.2.1))&&decide (x.2.2.1<(n.2.2.2.2.2.2.length:Int))
   else if x.1=4 then ((n.1==9&&x.2.2.2==0)&&decide (0≤x.2.2.1))&&decide (x.2.2.1≤255)
   else false
def opn (d:List SNode):List SItem→List (List SItem)
 | []=>[]
 | x::rest=>
  if x.1=5 then (if x.2.2.1=0 then [rest] else [])
  else match at? d x.2.1 with
  | none=>[]
  | some n=>
   if x.1=2 then (if x.2.2.1=0 then [rest] else [])++(if 0<x.2.2.2 then [(1,n.2.1,0,0)::(2,x.2.1,max (x.2.2.1-1) 0,x.2.2.2-1)::rest] else [])
   else if n.1=1 then [rest]
   else if n.1=3 then [(3,x.2.1,0,0)::rest]
   else if n.1=4 then [(1,n.2.1,0,0)::(1,n.2.2.1,0,0)::rest]
   else if n.1=5 then [(1,n.2.1,0,0)::rest,(1,n.2.2.1,0,0)::rest]
   else if n.1=6 then [rest,(1,n.2.1,0,0)::x::rest]
   else [(2,x.2.1,n.2.2.2.1,n.2.2.2.2.1)::rest]
def rdy (d:List SNode):List SItem→Bool
 | []=>true
 | x::_=>x.1==3||x.1==4||(x.1==1&&match at? d x.2.1 with | some n=>n.1==2||n.1==8||n.1==9 | none=>false)
def lv (d:List SNode):Nat→List SItem→Option (List (List SItem))
 | 0,_=>none
 | h+1,s=>if rdy d s=true then some [s] else ((opn d s).mapM (lv d h)).map List.flatten
def nzN (l:List Bool) (n:SNode):Bool:=
 if n.1=1 then true
 else if n.1=4 then (at? l n.2.1).getD false&&(at? l n.2.2.1).getD false
 else if n.1=5 then (at? l n.2.1).getD false||(at? l n.2.2.1).getD false
 else if n.1=6 then true
 else if n.1=7 then decide (n.2.2.2.1=0)||(at? l n.2.1).getD false
 else false
def nzL (d:List SNode):List Bool:=d.foldl (fun l n=>l++[nzN l n]) []
def nz (d:List SNode) (i:Int):Bool:=(at? (nzL d) i).getD false
structure ROk (d:List SNode):Prop where
 two:∀(i:Int) n,at? d i=some n→(n.1=4∨n.1=5)→(0≤n.2.1∧n.2.1<i)∧(0≤n.2.2.1∧n.2.2.1<i)
 one:∀(i:Int) n,at? d i=some n→(n.1=6∨n.1=7∨n.1=8∨n.1=9)→0≤n.2.1∧n.2.1<i
 rep:∀(i:Int) n,at? d i=some n→n.1=7→0≤n.2.2.2.1∧n.2.2.2.1≤n.2.2.2.2.1∧n.2.2.2.2.1≤255
 kind:∀(i:Int) n,at? d i=some n→1≤n.1∧n.1≤9
 ntx:∀(i:Int) n,at? d i=some n→n.1=3→n.2.2.2.2.2.2≠[]
 nn:∀(i:Int) n,at? d i=some n→(n.1=6∨n.1=7)→nz d n.2.1=false
structure DOk (d:List SNode):Prop where
 len:d.length≤1000
 txt:∀n∈d,n.2.2.2.2.2.2.length≤9223372036854775807
def formS (d:List SNode) (s:List SItem):Bool:=s.all (formI d)
abbrev sat (n:Nat):Int:=((min 2 n:Nat):Int)
structure Can (f:List SItem→Nat) (B:List SBranch):Prop where
 srt:B.Pairwise (fun a b=>cmpS a.1 b.1<0)
 mem:∀t m,(t,m)∈B↔f t≠0∧m=sat (f t)
def insB (b:SBranch):List SBranch→List SBranch
 | []=>[b]
 | c::l=>if cmpS b.1 c.1<0 then b::c::l else c::insB b l
def srtB (l:List SBranch):List SBranch:=l.foldr insB []
def sort_heads_Heads_1 (x r:List SBranch):Prop:=(x.map (·.1)).Nodup∧(∀b∈x,b.1.length≤1000)∧x.length≤2147483648∧r=srtB x
def sort_next_On_1 (x r:List SBranch):Prop:=(x.map (·.1)).Nodup∧(∀b∈x,b.1.length≤1000)∧x.length≤2147483648∧r=srtB x
def heads_Heads (d:SDesc) (s:List SItem) (r:List SBranch):Prop:=ROk d∧DOk d∧d.length≤400∧d≠[]∧formS d s=true∧s.length≤400∧r.length≤2147483648∧∃h L,lv d h s=some L∧Can (fun t=>L.count t) r
def keyL (l:List (List SItem)):Str:=l.flatMap fun s=>keyS s++[47]
def sets_Key (l:List (List SItem)) (r:Str):Prop:=l.length≤1000000000∧(∀s∈l,s.length≤1000)∧r=keyL l
def sort_item_Compare (x r:List (List SItem)):Prop:=(∀b∈x,b.length≤1000)∧x.length≤2147483648∧r.Perm x∧r.Pairwise (fun a b=>cmpS a b<0)
def sets_On_t (m:List (Str × List SItem)) (r:List (List SItem)):Prop:=sort_item_Compare (m.map (·.2)) r
set_option maxRecDepth 100000
noncomputable abbrev En.SItem:En SItem:=(En.cat (En.int .i64) (En.cat (En.int .i64) (En.cat (En.int .i64) (En.int .i64))))
noncomputable abbrev EnF88:En ((List SItem) × Bool→Prop):=En.fun Tryz.prog (fun q=>[Pd.rep (En.slice En.SItem) q.1]) (fun q=>Rq (Pd.rep En.bool q.2))
noncomputable abbrev EnF209:En (Cl × Int→Prop):=En.fun Tryz.prog (fun q=>[Pd.rep En.cls q.1]) (fun q=>Rq (Pd.rep (En.int .i64) q.2))
noncomputable abbrev EnF211:En (Cl × Cl × Int→Prop):=En.fun Tryz.prog (fun q=>[Pd.rep En.cls q.1,Pd.rep En.cls q.2.1]) (fun q=>Rq (Pd.rep (En.int .i64) q.2.2))
noncomputable abbrev En.SNode:En SNode:=(En.cat (En.int .i64) (En.cat (En.int .i64) (En.cat (En.int .i64) (En.cat (En.int .i64) (En.cat (En.int .i64) (En.cat En.cls En.str))))))
noncomputable abbrev En.SDesc:En SDesc:=En.solo (En.slice En.SNode)
noncomputable abbrev En.SBranch:En SBranch:=(En.cat (En.slice En.SItem) (En.int .i64))
noncomputable abbrev En.Sstep_next:En Sstep_next:=(En.cat En.SNode (En.cat En.SItem (En.int .u8)))
theorem ty3:Ty Tryz.prog 3 (En.int .i64):=⟨⟨_,_,rfl,rfl,rfl,rfl,by decide⟩,_,rfl,rfl⟩
theorem ty4:Ty Tryz.prog 4 En.bool:=⟨⟨_,_,rfl,rfl,rfl,rfl,by decide⟩,_,rfl,rfl⟩
theorem ty5:Ty Tryz.prog 5 (En.int .u8):=⟨⟨_,_,rfl,rfl,rfl,rfl,by decide⟩,_,rfl,rfl⟩
theorem ty9:Ty Tryz.prog 9 En.str:=⟨⟨_,_,rfl,rfl,rfl,rfl,by decide⟩,_,rfl,rfl⟩
theorem ty22:Ty Tryz.prog 22 (En.slice En.SNode):=⟨⟨_,_,rfl,rfl,rfl,rfl,by decide⟩,_,rfl,rfl⟩
theorem ty24:Ty Tryz.prog 24 En.SDesc:=⟨⟨_,_,rfl,rfl,rfl,rfl,by decide⟩,_,rfl,rfl⟩
theorem ty47:Ty Tryz.prog 47 (En.slice En.SItem):=⟨⟨_,_,rfl,rfl,rfl,rfl,by decide⟩,_,rfl,rfl⟩
theorem ty49:Ty Tryz.prog 49 (En.int .u64):=⟨⟨_,_,rfl,rfl,rfl,rfl,by decide⟩,_,rfl,rfl⟩
theorem ty51:Ty Tryz.prog 51 En.cls:=⟨⟨_,_,rfl,rfl,rfl,rfl,by decide⟩,_,rfl,rfl⟩
theorem ty68:Ty Tryz.prog 68 En.SNode:=⟨⟨_,_,rfl,rfl,rfl,rfl,by decide⟩,_,rfl,rfl⟩
theorem ty77:Ty Tryz.prog 77 En.SItem:=⟨⟨_,_,rfl,rfl,rfl,rfl,by decide⟩,_,rfl,rfl⟩
theorem ty82:Ty Tryz.prog 82 En.SBranch:=⟨⟨_,_,rfl,rfl,rfl,rfl,by decide⟩,_,rfl,rfl⟩
theorem ty209:Ty Tryz.prog 209 EnF209:=⟨⟨_,_,rfl,rfl,rfl,rfl,by decide⟩,_,rfl,rfl⟩
theorem tyz3:TyZ Tryz.prog 3 (En.int .i64) (0:Int):=⟨_,_,[.int .i64 0],rfl,rfl,by rfl,fun _ _=>⟨rfl,by decide⟩⟩
theorem tyz4:TyZ Tryz.prog 4 En.bool (false:Bool):=⟨_,_,[.bool false],rfl,rfl,by rfl,fun _ _=>rfl⟩
theorem tyz24:TyZ Tryz.prog 24 En.SDesc ([]:SDesc):=⟨_,_,[.slice none 0 0],rfl,rfl,by rfl,fun _ _=>⟨_,rfl,slV_nil _ _ _⟩⟩
theorem tyz51:TyZ Tryz.prog 51 En.cls ((0#256):Cl):=⟨_,_,zbr 0#256,rfl,rfl,by rfl,fun _ _=>rfl⟩
theorem tyz68:TyZ Tryz.prog 68 En.SNode ((0,0,0,0,0,(0#256),([]:Str)):SNode):=⟨_,_,([.int .i64 0]++([.int .i64 0]++([.int .i64 0]++([.int .i64 0]++([.int .i64 0]++(zbr 0#256++[.string ⟨#[]⟩])))))),rfl,rfl,by rfl,fun _ _=>⟨_,_,rfl,⟨rfl,by decide⟩,⟨_,_,rfl,⟨rfl,by decide⟩,⟨_,_,rfl,⟨rfl,by decide⟩,⟨_,_,rfl,⟨rfl,by decide⟩,⟨_,_,rfl,⟨rfl,by decide⟩,⟨_,_,rfl,rfl,⟨rfl,by decide⟩⟩⟩⟩⟩⟩⟩⟩
theorem tyz77:TyZ Tryz.prog 77 En.SItem ((0,0,0,0):SItem):=⟨_,_,([.int .i64 0]++([.int .i64 0]++([.int .i64 0]++[.int .i64 0]))),rfl,rfl,by rfl,fun _ _=>⟨_,_,rfl,⟨rfl,by decide⟩,⟨_,_,rfl,⟨rfl,by decide⟩,⟨_,_,rfl,⟨rfl,by decide⟩,⟨rfl,by decide⟩⟩⟩⟩⟩
theorem tyz82:TyZ Tryz.prog 82 En.SBranch (([],0):SBranch):=⟨_,_,([.slice none 0 0]++[.int .i64 0]),rfl,rfl,by rfl,fun _ _=>⟨_,_,rfl,⟨_,rfl,slV_nil _ _ _⟩,⟨rfl,by decide⟩⟩⟩
theorem tyz170:TyZ Tryz.prog 170 En.Sstep_next (((0,0,0,0,0,(0#256),([]:Str)),(0,0,0,0),0):Sstep_next):=⟨_,_,(([.int .i64 0]++([.int .i64 0]++([.int .i64 0]++([.int .i64 0]++([.int .i64 0]++(zbr 0#256++[.string ⟨#[]⟩]))))))++(([.int .i64 0]++([.int .i64 0]++([.int .i64 0]++[.int .i64 0])))++[.int .u8 0])),rfl,rfl,by rfl,fun _ _=>⟨_,_,rfl,⟨_,_,rfl,⟨rfl,by decide⟩,⟨_,_,rfl,⟨rfl,by decide⟩,⟨_,_,rfl,⟨rfl,by decide⟩,⟨_,_,rfl,⟨rfl,by decide⟩,⟨_,_,rfl,⟨rfl,by decide⟩,⟨_,_,rfl,rfl,⟨rfl,by decide⟩⟩⟩⟩⟩⟩⟩,⟨_,_,rfl,⟨_,_,rfl,⟨rfl,by decide⟩,⟨_,_,rfl,⟨rfl,by decide⟩,⟨_,_,rfl,⟨rfl,by decide⟩,⟨rfl,by decide⟩⟩⟩⟩,⟨rfl,by decide⟩⟩⟩⟩
theorem tyz209:TyZ Tryz.prog 209 EnF209 ((fun _=>False):(Cl × Int→Prop)):=⟨_,_,[.nilFunc],rfl,rfl,by rfl,fun _ _=>.inl ⟨rfl,fun _ h=>h⟩⟩
theorem tyv3:TyV Tryz.prog 3 (En.int .i64) (0:Int):=⟨_,[.int .i64 0],rfl,by rfl,fun _ _=>⟨rfl,by decide⟩⟩
theorem tyv4:TyV Tryz.prog 4 En.bool (false:Bool):=⟨_,[.bool false],rfl,by rfl,fun _ _=>rfl⟩
theorem stt24:Stt Tryz.prog 24 [(0,1)]:=⟨_,Tryz.underlying24,by kernel_rfl⟩
theorem stt68:Stt Tryz.prog 68 [(0,1),(1,1),(2,1),(3,1),(4,1),(5,4),(9,1)]:=⟨_,Tryz.underlying68,by kernel_rfl⟩
theorem stt77:Stt Tryz.prog 77 [(0,1),(1,1),(2,1),(3,1)]:=⟨_,Tryz.underlying77,by kernel_rfl⟩
theorem stt82:Stt Tryz.prog 82 [(0,1),(1,1)]:=⟨_,Tryz.underlying82,by kernel_rfl⟩
theorem stt170:Stt Tryz.prog 170 [(0,10),(10,4),(14,1)]:=⟨_,Tryz.underlying170,by kernel_rfl⟩
theorem eqi68:EqI Tryz.prog 3 68 En.SNode:=eqi_struct rfl (by kernel_rfl) (by kernel_rfl) rfl (eqfs_cons (EqI.up (eqi_int Tryz.underlying3) (by decide)) ty3 (by kernel_rfl) (by kernel_rfl) (eqfs_cons (EqI.up (eqi_int Tryz.underlying3) (by decide)) ty3 (by kernel_rfl) (by kernel_rfl) (eqfs_cons (EqI.up (eqi_int Tryz.underlying3) (by decide)) ty3 (by kernel_rfl) (by kernel_rfl) (eqfs_cons (EqI.up (eqi_int Tryz.underlying3) (by decide)) ty3 (by kernel_rfl) (by kernel_rfl) (eqfs_cons (EqI.up (eqi_int Tryz.underlying3) (by decide)) ty3 (by kernel_rfl) (by kernel_rfl) (eqfs_cons (EqI.up (eqi_cls Tryz.underlying51 Tryz.underlying49 (by kernel_rfl)) (by decide)) ty51 (by kernel_rfl) (by kernel_rfl) (eqfs_last (EqI.up (eqi_str Tryz.underlying9) (by decide)) ty9 (by kernel_rfl) (by kernel_rfl))))))))
theorem eq68:Eqv Tryz.prog 68 En.SNode:=eqv_struct eqi68 (by decide) rfl (by kernel_rfl)
theorem keycls51:KeyT Tryz.prog 51 En.cls kvCls:=key_cls Tryz.underlying51 Tryz.underlying49 (by kernel_rfl) (by kernel_rfl) (by kernel_rfl) ⟨_,rfl⟩ (by kernel_rfl) (by kernel_rfl)
open Go.Shelf
set_option maxRecDepth 100000
def sl169_ren:Go.Shelf.Ren:=⟨fun | 169=>71 | n=>n,fun | 70=>94 | 9=>9 | 0=>0 | 72=>96 | 37=>26 | 127=>147 | 3=>3 | 5=>5 | n=>n,fun | n=>n⟩
theorem sl169:Go.Proofs.Lays.n169 Tryz.prog sl169_ren where
 mixed:=by kernel_rfl
 f169:=Tryz.func71.trans (congrArg some (by kernel_rfl))
 t0:=Tryz.underlying0
 a0:=Tryz.isAgg0
 z0:=Tryz.sizeOf0
 v0:=Tryz.zeroValue0
 t3:=Tryz.underlying3
 a3:=Tryz.isAgg3
 z3:=Tryz.sizeOf3
 v3:=Tryz.zeroValue3
 t9:=Tryz.underlying9
 a9:=Tryz.isAgg9
 z9:=Tryz.sizeOf9
 v9:=Tryz.zeroValue9
 t37:=Tryz.underlying26
 a37:=Tryz.isAgg26
 z37:=Tryz.sizeOf26
 v37:=Tryz.zeroValue26
 t70:=Tryz.underlying94
 a70:=Tryz.isAgg94
 z70:=Tryz.sizeOf94
 v70:=Tryz.zeroValue94
 t72:=Tryz.underlying96
 a72:=Tryz.isAgg96
 z72:=Tryz.sizeOf96
 v72:=Tryz.zeroValue96
 t127:=Tryz.underlying147
 a127:=Tryz.isAgg147
 z127:=Tryz.sizeOf147
 v127:=Tryz.zeroValue147
def sl171_ren:Go.Shelf.Ren:=⟨fun | 171=>93 | 243=>121 | 246=>154 | 283=>174 | 284=>175 | 285=>176 | 286=>177 | 129=>131 | 317=>181 | 318=>182 | 319=>183 | 320=>184 | 337=>187 | 338=>188 | n=>n,fun | 3=>3 | 9=>9 | 2=>2 | 4=>4 | 171=>218 | 0=>0 | 53=>49 | 37=>26 | 5=>5 | 173=>220 | 212=>227 | 51=>181 | 20=>20 | 213=>228 | 46=>133 | 232=>231 | 233=>232 | n=>n,fun | 17=>2 | 18=>3 | 19=>4 | n=>n⟩
theorem sl171:Go.Proofs.LaysM.n171 Tryz.prog sl171_ren where
 mixed:=by kernel_rfl
 f129:=Tryz.func131.trans (congrArg some (by kernel_rfl))
 f171:=Tryz.func93.trans (congrArg some (by kernel_rfl))
 f243:=Tryz.func121.trans (congrArg some (by kernel_rfl))
 f246:=Tryz.func154.trans (congrArg some (by kernel_rfl))
 f283:=Tryz.func174.trans (congrArg some (by kernel_rfl))
 f284:=Tryz.func175.trans (congrArg some (by kernel_rfl))
 f285:=Tryz.func176.trans (congrArg some (by kernel_rfl))
 f286:=Tryz.func177.trans (congrArg some (by kernel_rfl))
 f317:=Tryz.func181.trans (congrArg some (by kernel_rfl))
 f318:=Tryz.func182.trans (congrArg some (by kernel_rfl))
 f319:=Tryz.func183.trans (congrArg some (by kernel_rfl))
 f320:=Tryz.func184.trans (congrArg some (by kernel_rfl))
 f337:=Tryz.func187.trans (congrArg some (by kernel_rfl))
 f338:=Tryz.func188.trans (congrArg some (by kernel_rfl))
 t0:=Tryz.underlying0
 a0:=Tryz.isAgg0
 z0:=Tryz.sizeOf0
 v0:=Tryz.zeroValue0
 t2:=Tryz.underlying2
 a2:=Tryz.isAgg2
 z2:=Tryz.sizeOf2
 v2:=Tryz.zeroValue2
 t3:=Tryz.underlying3
 a3:=Tryz.isAgg3
 z3:=Tryz.sizeOf3
 v3:=Tryz.zeroValue3
 t4:=Tryz.underlying4
 a4:=Tryz.isAgg4
 z4:=Tryz.sizeOf4
 v4:=Tryz.zeroValue4
 t5:=Tryz.underlying5
 a5:=Tryz.isAgg5
 z5:=Tryz.sizeOf5
 v5:=Tryz.zeroValue5
 t9:=Tryz.underlying9
 a9:=Tryz.isAgg9
 z9:=Tryz.sizeOf9
 v9:=Tryz.zeroValue9
 t20:=Tryz.underlying20
 a20:=Tryz.isAgg20
 z20:=Tryz.sizeOf20
 v20:=Tryz.zeroValue20
 t37:=Tryz.underlying26
 a37:=Tryz.isAgg26
 z37:=Tryz.sizeOf26
 v37:=Tryz.zeroValue26
 t46:=Tryz.underlying133
 a46:=Tryz.isAgg133
 z46:=Tryz.sizeOf133
 v46:=Tryz.zeroValue133
 t51:=Tryz.underlying181
 a51:=Tryz.isAgg181
 z51:=Tryz.sizeOf181
 v51:=Tryz.zeroValue181
 t53:=Tryz.underlying49
 a53:=Tryz.isAgg49
 z53:=Tryz.sizeOf49
 v53:=Tryz.zeroValue49
 t171:=Tryz.underlying218
 a171:=Tryz.isAgg218
 z171:=Tryz.sizeOf218
 v171:=Tryz.zeroValue218
 t173:=Tryz.underlying220
 a173:=Tryz.isAgg220
 z173:=Tryz.sizeOf220
 v173:=Tryz.zeroValue220
 t212:=Tryz.underlying227
 a212:=Tryz.isAgg227
 z212:=Tryz.sizeOf227
 v212:=Tryz.zeroValue227
 t213:=Tryz.underlying228
 a213:=Tryz.isAgg228
 z213:=Tryz.sizeOf228
 t232:=Tryz.underlying231
 a232:=Tryz.isAgg231
 z232:=Tryz.sizeOf231
 v232:=Tryz.zeroValue231
 t233:=Tryz.underlying232
 a233:=Tryz.isAgg232
 z233:=Tryz.sizeOf232
 v233:=Tryz.zeroValue232
 g17:=by kernel_rfl
 g18:=by kernel_rfl
 g19:=by kernel_rfl
 i0:=by kernel_rfl
 i2:=by kernel_rfl
 i3:=by kernel_rfl
 i4:=by kernel_rfl
 i5:=by kernel_rfl
 i9:=by kernel_rfl
 i20:=by kernel_rfl
 i37:=by kernel_rfl
 i46:=by kernel_rfl
 i51:=by kernel_rfl
 i53:=by kernel_rfl
 i171:=by kernel_rfl
 i173:=by kernel_rfl
 i212:=by kernel_rfl
 i232:=by kernel_rfl
 i233:=by kernel_rfl
 m17:=by kernel_rfl
 m18:=by kernel_rfl
 m19:=by kernel_rfl
def slsort_ren:Go.Shelf.Ren:=⟨fun | 6=>91 | 15=>95 | 14=>120 | 28=>130 | 29=>131 | 20=>146 | 21=>147 | 22=>148 | 23=>149 | 24=>150 | 25=>151 | 26=>152 | 27=>153 | 46=>171 | 47=>156 | 48=>157 | 49=>172 | 50=>173 | 57=>180 | n=>n,fun | 22=>79 | 24=>82 | 25=>129 | 3=>3 | 39=>133 | 0=>0 | 53=>181 | 55=>49 | 4=>4 | 46=>175 | 45=>174 | 50=>70 | 5=>5 | 9=>9 | 66=>201 | 70=>205 | 76=>222 | 77=>61 | n=>n,fun | n=>n⟩
theorem slsort:Go.Proofs.SlLaysF0.n6 Tryz.prog slsort_ren where
 mixed:=by kernel_rfl
 f6:=⟨"slices.SortFunc[[]scantling/api.Branch,scantling/api.Branch]",by decide,Tryz.func91.trans (congrArg some (by kernel_rfl))⟩
 f14:=⟨"slices.pdqsortCmpFunc[scantling/api.Branch]",by decide,Tryz.func120.trans (congrArg some (by kernel_rfl))⟩
 f15:=Tryz.func95.trans (congrArg some (by kernel_rfl))
 f20:=⟨"slices.insertionSortCmpFunc[scantling/api.Branch]",by decide,Tryz.func146.trans (congrArg some (by kernel_rfl))⟩
 f21:=⟨"slices.heapSortCmpFunc[scantling/api.Branch]",by decide,Tryz.func147.trans (congrArg some (by kernel_rfl))⟩
 f22:=⟨"slices.breakPatternsCmpFunc[scantling/api.Branch]",by decide,Tryz.func148.trans (congrArg some (by kernel_rfl))⟩
 f23:=⟨"slices.choosePivotCmpFunc[scantling/api.Branch]",by decide,Tryz.func149.trans (congrArg some (by kernel_rfl))⟩
 f24:=⟨"slices.reverseRangeCmpFunc[scantling/api.Branch]",by decide,Tryz.func150.trans (congrArg some (by kernel_rfl))⟩
 f25:=⟨"slices.partialInsertionSortCmpFunc[scantling/api.Branch]",by decide,Tryz.func151.trans (congrArg some (by kernel_rfl))⟩
 f26:=⟨"slices.partitionEqualCmpFunc[scantling/api.Branch]",by decide,Tryz.func152.trans (congrArg some (by kernel_rfl))⟩
 f27:=⟨"slices.partitionCmpFunc[scantling/api.Branch]",by decide,Tryz.func153.trans (congrArg some (by kernel_rfl))⟩
 f28:=Tryz.func130.trans (congrArg some (by kernel_rfl))
 f29:=Tryz.func131.trans (congrArg some (by kernel_rfl))
 f46:=⟨"slices.siftDownCmpFunc[scantling/api.Branch]",by decide,Tryz.func171.trans (congrArg some (by kernel_rfl))⟩
 f47:=Tryz.func156.trans (congrArg some (by kernel_rfl))
 f48:=Tryz.func157.trans (congrArg some (by kernel_rfl))
 f49:=⟨"slices.medianAdjacentCmpFunc[scantling/api.Branch]",by decide,Tryz.func172.trans (congrArg some (by kernel_rfl))⟩
 f50:=⟨"slices.medianCmpFunc[scantling/api.Branch]",by decide,Tryz.func173.trans (congrArg some (by kernel_rfl))⟩
 f57:=⟨"slices.order2CmpFunc[scantling/api.Branch]",by decide,Tryz.func180.trans (congrArg some (by kernel_rfl))⟩
 t0:=Tryz.underlying0
 a0:=Tryz.isAgg0
 z0:=Tryz.sizeOf0
 v0:=Tryz.zeroValue0
 t3:=Tryz.underlying3
 a3:=Tryz.isAgg3
 z3:=Tryz.sizeOf3
 v3:=Tryz.zeroValue3
 t4:=Tryz.underlying4
 a4:=Tryz.isAgg4
 z4:=Tryz.sizeOf4
 v4:=Tryz.zeroValue4
 t5:=Tryz.underlying5
 a5:=Tryz.isAgg5
 z5:=Tryz.sizeOf5
 v5:=Tryz.zeroValue5
 t9:=Tryz.underlying9
 a9:=Tryz.isAgg9
 z9:=Tryz.sizeOf9
 v9:=Tryz.zeroValue9
 t22:=Tryz.underlying79
 a22:=Tryz.isAgg79
 z22:=Tryz.sizeOf79
 v22:=Tryz.zeroValue79
 t25:=Tryz.underlying129
 a25:=Tryz.isAgg129
 z25:=Tryz.sizeOf129
 v25:=Tryz.zeroValue129
 t39:=Tryz.underlying133
 a39:=Tryz.isAgg133
 z39:=Tryz.sizeOf133
 v39:=Tryz.zeroValue133
 t45:=Tryz.underlying174
 a45:=Tryz.isAgg174
 z45:=Tryz.sizeOf174
 v45:=Tryz.zeroValue174
 t46:=Tryz.underlying175
 a46:=Tryz.isAgg175
 z46:=Tryz.sizeOf175
 v46:=Tryz.zeroValue175
 t50:=Tryz.underlying70
 a50:=Tryz.isAgg70
 z50:=Tryz.sizeOf70
 v50:=Tryz.zeroValue70
 t53:=Tryz.underlying181
 a53:=Tryz.isAgg181
 z53:=Tryz.sizeOf181
 v53:=Tryz.zeroValue181
 t55:=Tryz.underlying49
 a55:=Tryz.isAgg49
 z55:=Tryz.sizeOf49
 v55:=Tryz.zeroValue49
 t66:=Tryz.underlying201
 a66:=Tryz.isAgg201
 z66:=Tryz.sizeOf201
 v66:=Tryz.zeroValue201
 t70:=Tryz.underlying205
 a70:=Tryz.isAgg205
 z70:=Tryz.sizeOf205
 v70:=Tryz.zeroValue205
 t76:=Tryz.underlying222
 a76:=Tryz.isAgg222
 z76:=Tryz.sizeOf222
 v76:=Tryz.zeroValue222
 t77:=Tryz.underlying61
 a77:=Tryz.isAgg61
 z77:=Tryz.sizeOf61
 v77:=Tryz.zeroValue61
def slsortS_ren:Go.Shelf.Ren:=⟨fun | 6=>57 | 15=>95 | 14=>94 | 28=>130 | 29=>131 | 20=>122 | 21=>123 | 22=>124 | 23=>125 | 24=>126 | 25=>127 | 26=>128 | 27=>129 | 46=>155 | 47=>156 | 48=>157 | 49=>158 | 50=>159 | 57=>178 | n=>n,fun | 22=>25 | 24=>47 | 25=>73 | 3=>3 | 39=>133 | 0=>0 | 53=>181 | 55=>49 | 4=>4 | 46=>175 | 45=>174 | 50=>70 | 5=>5 | 9=>9 | 66=>201 | 70=>205 | 76=>222 | 77=>61 | n=>n,fun | n=>n⟩
theorem slsortS:Go.Proofs.SlLaysF0.n6 Tryz.prog slsortS_ren where
 mixed:=by kernel_rfl
 f6:=⟨"slices.SortFunc[[]scantling/api.State,scantling/api.State]",by decide,Tryz.func57.trans (congrArg some (by kernel_rfl))⟩
 f14:=⟨"slices.pdqsortCmpFunc[scantling/api.State]",by decide,Tryz.func94.trans (congrArg some (by kernel_rfl))⟩
 f15:=Tryz.func95.trans (congrArg some (by kernel_rfl))
 f20:=⟨"slices.insertionSortCmpFunc[scantling/api.State]",by decide,Tryz.func122.trans (congrArg some (by kernel_rfl))⟩
 f21:=⟨"slices.heapSortCmpFunc[scantling/api.State]",by decide,Tryz.func123.trans (congrArg some (by kernel_rfl))⟩
 f22:=⟨"slices.breakPatternsCmpFunc[scantling/api.State]",by decide,Tryz.func124.trans (congrArg some (by kernel_rfl))⟩
 f23:=⟨"slices.choosePivotCmpFunc[scantling/api.State]",by decide,Tryz.func125.trans (congrArg some (by kernel_rfl))⟩
 f24:=⟨"slices.reverseRangeCmpFunc[scantling/api.State]",by decide,Tryz.func126.trans (congrArg some (by kernel_rfl))⟩
 f25:=⟨"slices.partialInsertionSortCmpFunc[scantling/api.State]",by decide,Tryz.func127.trans (congrArg some (by kernel_rfl))⟩
 f26:=⟨"slices.partitionEqualCmpFunc[scantling/api.State]",by decide,Tryz.func128.trans (congrArg some (by kernel_rfl))⟩
 f27:=⟨"slices.partitionCmpFunc[scantling/api.State]",by decide,Tryz.func129.trans (congrArg some (by kernel_rfl))⟩
 f28:=Tryz.func130.trans (congrArg some (by kernel_rfl))
 f29:=Tryz.func131.trans (congrArg some (by kernel_rfl))
 f46:=⟨"slices.siftDownCmpFunc[scantling/api.State]",by decide,Tryz.func155.trans (congrArg some (by kernel_rfl))⟩
 f47:=Tryz.func156.trans (congrArg some (by kernel_rfl))
 f48:=Tryz.func157.trans (congrArg some (by kernel_rfl))
 f49:=⟨"slices.medianAdjacentCmpFunc[scantling/api.State]",by decide,Tryz.func158.trans (congrArg some (by kernel_rfl))⟩
 f50:=⟨"slices.medianCmpFunc[scantling/api.State]",by decide,Tryz.func159.trans (congrArg some (by kernel_rfl))⟩
 f57:=⟨"slices.order2CmpFunc[scantling/api.State]",by decide,Tryz.func178.trans (congrArg some (by kernel_rfl))⟩
 t0:=Tryz.underlying0
 a0:=Tryz.isAgg0
 z0:=Tryz.sizeOf0
 v0:=Tryz.zeroValue0
 t3:=Tryz.underlying3
 a3:=Tryz.isAgg3
 z3:=Tryz.sizeOf3
 v3:=Tryz.zeroValue3
 t4:=Tryz.underlying4
 a4:=Tryz.isAgg4
 z4:=Tryz.sizeOf4
 v4:=Tryz.zeroValue4
 t5:=Tryz.underlying5
 a5:=Tryz.isAgg5
 z5:=Tryz.sizeOf5
 v5:=Tryz.zeroValue5
 t9:=Tryz.underlying9
 a9:=Tryz.isAgg9
 z9:=Tryz.sizeOf9
 v9:=Tryz.zeroValue9
 t22:=Tryz.underlying25
 a22:=Tryz.isAgg25
 z22:=Tryz.sizeOf25
 v22:=Tryz.zeroValue25
 t25:=Tryz.underlying73
 a25:=Tryz.isAgg73
 z25:=Tryz.sizeOf73
 v25:=Tryz.zeroValue73
 t39:=Tryz.underlying133
 a39:=Tryz.isAgg133
 z39:=Tryz.sizeOf133
 v39:=Tryz.zeroValue133
 t45:=Tryz.underlying174
 a45:=Tryz.isAgg174
 z45:=Tryz.sizeOf174
 v45:=Tryz.zeroValue174
 t46:=Tryz.underlying175
 a46:=Tryz.isAgg175
 z46:=Tryz.sizeOf175
 v46:=Tryz.zeroValue175
 t50:=Tryz.underlying70
 a50:=Tryz.isAgg70
 z50:=Tryz.sizeOf70
 v50:=Tryz.zeroValue70
 t53:=Tryz.underlying181
 a53:=Tryz.isAgg181
 z53:=Tryz.sizeOf181
 v53:=Tryz.zeroValue181
 t55:=Tryz.underlying49
 a55:=Tryz.isAgg49
 z55:=Tryz.sizeOf49
 v55:=Tryz.zeroValue49
 t66:=Tryz.underlying201
 a66:=Tryz.isAgg201
 z66:=Tryz.sizeOf201
 v66:=Tryz.zeroValue201
 t70:=Tryz.underlying205
 a70:=Tryz.isAgg205
 z70:=Tryz.sizeOf205
 v70:=Tryz.zeroValue205
 t76:=Tryz.underlying222
 a76:=Tryz.isAgg222
 z76:=Tryz.sizeOf222
 v76:=Tryz.zeroValue222
 t77:=Tryz.underlying61
 a77:=Tryz.isAgg61
 z77:=Tryz.sizeOf61
 v77:=Tryz.zeroValue61
def slsortT_ren:Go.Shelf.Ren:=⟨fun | 6=>57 | 15=>95 | 14=>94 | 28=>130 | 29=>131 | 20=>122 | 21=>123 | 22=>124 | 23=>125 | 24=>126 | 25=>127 | 26=>128 | 27=>129 | 46=>155 | 47=>156 | 48=>157 | 49=>158 | 50=>159 | 57=>178 | n=>n,fun | 22=>25 | 24=>47 | 25=>73 | 3=>3 | 39=>133 | 0=>0 | 53=>181 | 55=>49 | 4=>4 | 46=>175 | 45=>174 | 50=>70 | 5=>5 | 9=>9 | 66=>201 | 70=>205 | 76=>222 | 77=>61 | n=>n,fun | n=>n⟩
theorem slsortT:Go.Proofs.SlLaysF.n6 Tryz.prog slsortT_ren where
 mixed:=by kernel_rfl
 f6:=⟨"slices.SortFunc[[]scantling/api.State,scantling/api.State]",by decide,Tryz.func57.trans (congrArg some (by kernel_rfl))⟩
 f14:=⟨"slices.pdqsortCmpFunc[scantling/api.State]",by decide,Tryz.func94.trans (congrArg some (by kernel_rfl))⟩
 f15:=Tryz.func95.trans (congrArg some (by kernel_rfl))
 f20:=⟨"slices.insertionSortCmpFunc[scantling/api.State]",by decide,Tryz.func122.trans (congrArg some (by kernel_rfl))⟩
 f21:=⟨"slices.heapSortCmpFunc[scantling/api.State]",by decide,Tryz.func123.trans (congrArg some (by kernel_rfl))⟩
 f22:=⟨"slices.breakPatternsCmpFunc[scantling/api.State]",by decide,Tryz.func124.trans (congrArg some (by kernel_rfl))⟩
 f23:=⟨"slices.choosePivotCmpFunc[scantling/api.State]",by decide,Tryz.func125.trans (congrArg some (by kernel_rfl))⟩
 f24:=⟨"slices.reverseRangeCmpFunc[scantling/api.State]",by decide,Tryz.func126.trans (congrArg some (by kernel_rfl))⟩
 f25:=⟨"slices.partialInsertionSortCmpFunc[scantling/api.State]",by decide,Tryz.func127.trans (congrArg some (by kernel_rfl))⟩
 f26:=⟨"slices.partitionEqualCmpFunc[scantling/api.State]",by decide,Tryz.func128.trans (congrArg some (by kernel_rfl))⟩
 f27:=⟨"slices.partitionCmpFunc[scantling/api.State]",by decide,Tryz.func129.trans (congrArg some (by kernel_rfl))⟩
 f28:=Tryz.func130.trans (congrArg some (by kernel_rfl))
 f29:=Tryz.func131.trans (congrArg some (by kernel_rfl))
 f46:=⟨"slices.siftDownCmpFunc[scantling/api.State]",by decide,Tryz.func155.trans (congrArg some (by kernel_rfl))⟩
 f47:=Tryz.func156.trans (congrArg some (by kernel_rfl))
 f48:=Tryz.func157.trans (congrArg some (by kernel_rfl))
 f49:=⟨"slices.medianAdjacentCmpFunc[scantling/api.State]",by decide,Tryz.func158.trans (congrArg some (by kernel_rfl))⟩
 f50:=⟨"slices.medianCmpFunc[scantling/api.State]",by decide,Tryz.func159.trans (congrArg some (by kernel_rfl))⟩
 f57:=⟨"slices.order2CmpFunc[scantling/api.State]",by decide,Tryz.func178.trans (congrArg some (by kernel_rfl))⟩
 t0:=Tryz.underlying0
 a0:=Tryz.isAgg0
 z0:=Tryz.sizeOf0
 v0:=Tryz.zeroValue0
 t3:=Tryz.underlying3
 a3:=Tryz.isAgg3
 z3:=Tryz.sizeOf3
 v3:=Tryz.zeroValue3
 t4:=Tryz.underlying4
 a4:=Tryz.isAgg4
 z4:=Tryz.sizeOf4
 v4:=Tryz.zeroValue4
 t5:=Tryz.underlying5
 a5:=Tryz.isAgg5
 z5:=Tryz.sizeOf5
 v5:=Tryz.zeroValue5
 t9:=Tryz.underlying9
 a9:=Tryz.isAgg9
 z9:=Tryz.sizeOf9
 v9:=Tryz.zeroValue9
 t22:=Tryz.underlying25
 a22:=Tryz.isAgg25
 z22:=Tryz.sizeOf25
 v22:=Tryz.zeroValue25
 a24:=Tryz.isAgg47
 z24:=Tryz.sizeOf47
 t25:=Tryz.underlying73
 a25:=Tryz.isAgg73
 z25:=Tryz.sizeOf73
 v25:=Tryz.zeroValue73
 t39:=Tryz.underlying133
 a39:=Tryz.isAgg133
 z39:=Tryz.sizeOf133
 v39:=Tryz.zeroValue133
 t45:=Tryz.underlying174
 a45:=Tryz.isAgg174
 z45:=Tryz.sizeOf174
 v45:=Tryz.zeroValue174
 t46:=Tryz.underlying175
 a46:=Tryz.isAgg175
 z46:=Tryz.sizeOf175
 v46:=Tryz.zeroValue175
 t50:=Tryz.underlying70
 a50:=Tryz.isAgg70
 z50:=Tryz.sizeOf70
 v50:=Tryz.zeroValue70
 t53:=Tryz.underlying181
 a53:=Tryz.isAgg181
 z53:=Tryz.sizeOf181
 v53:=Tryz.zeroValue181
 t55:=Tryz.underlying49
 a55:=Tryz.isAgg49
 z55:=Tryz.sizeOf49
 v55:=Tryz.zeroValue49
 t66:=Tryz.underlying201
 a66:=Tryz.isAgg201
 z66:=Tryz.sizeOf201
 v66:=Tryz.zeroValue201
 t70:=Tryz.underlying205
 a70:=Tryz.isAgg205
 z70:=Tryz.sizeOf205
 v70:=Tryz.zeroValue205
 t76:=Tryz.underlying222
 a76:=Tryz.isAgg222
 z76:=Tryz.sizeOf222
 v76:=Tryz.zeroValue222
 t77:=Tryz.underlying61
 a77:=Tryz.isAgg61
 z77:=Tryz.sizeOf61
 v77:=Tryz.zeroValue61
open Go.RowKit
theorem bx169:Builder.Extra Tryz.prog sl169_ren where
 sizeBuilder:=by kernel_rfl
 liesBuilder:=by kernel_rfl
 t5:=Tryz.underlying5
 a5:=Tryz.isAgg5
 z5:=Tryz.sizeOf5
 v5:=Tryz.zeroValue5
 infoByte:=by kernel_rfl
 cellsByte:=by kernel_rfl
 sizeByte:=by kernel_rfl
 neB5:=by decide
theorem b_string (B b:Nat) (l:List UInt8) (w:World) (h:Lib.IsBuilderF 96 5 B b (Lib.byteCells l) w) (hBw:B≤w.heap.size):
  Calls Tryz.prog 71 #[.pointer (some ⟨b,0,none⟩)] w fun e w'=>e = .returned (.string ⟨l.toArray⟩)∧(Lib.IsBuilderF 96 5 B b (Lib.byteCells l) w'∧Below B w w'∧Lib.OthersKept 5 (some b) w w'):=Any.Builder_String_any_k sl169 bx169 B b l w h hBw
theorem b_itoa (n:Int) (h0:-9223372036854775808≤n) (h1:n≤9223372036854775807) (w:World) (htab:Lib.TabIs Tryz.prog w "internal/strconv.uint64pow10" .u64 Lib.pow10Tab):
  Calls Tryz.prog 93 #[.int .i64 n] w fun e w'=>e = .returned (.string ⟨(Lib.itoa n).toArray⟩)∧∃k os,w'=Sort.grow (w.drewN k) os:=Any.strconv_Itoa sl171 n h0 h1 w htab
set_option maxHeartbeats 1000000 in
set_option maxRecDepth 100000 in
theorem b_used (b:Nat) (w:World) (h0:w.cell? ⟨b,0,none⟩=some (.pointer (some ⟨b,0,none⟩))):
  Calls Tryz.prog 112 #[.pointer (some ⟨b,0,none⟩)] w fun e w'=>e = .returned (.tuple #[])∧w'=w:=by
 obtain ⟨j,hj,_⟩:=Option.map_eq_some_iff.1 bx169.sizeBuilder
 go_enter Tryz.func112,Tryz.ntmps112
 go_wp2
 rw [Lib.run_neq_ptr_same w _ Tryz.underlying94 hj]
 go_wp2
 go_end0
 exact ⟨rfl,rfl⟩
set_option maxHeartbeats 1000000 in
set_option maxRecDepth 100000 in
theorem b_fresh (b:Nat) (w:World) (h0:w.cell? ⟨b,0,none⟩=some (.pointer none)) (hsh:w.shape? b=some (96,2)) (hfz:w.frozen? ⟨b,0,none⟩=false):
  Calls Tryz.prog 112 #[.pointer (some ⟨b,0,none⟩)] w fun e w'=>e = .returned (.tuple #[])∧w'=w.setCell ⟨b,0,none⟩ (.pointer (some ⟨b,0,none⟩)):=by
 obtain ⟨j,hj,hjs⟩:=Option.map_eq_some_iff.1 bx169.sizeBuilder
 go_enter Tryz.func112,Tryz.ntmps112
 go_wp2
 rw [Lib.run_to_unsafe w ⟨b,0,none⟩ Tryz.underlying94 Tryz.underlying188 hj (by rw [hjs];decide) hsh (Nat.zero_lt_succ 1)]
 simp only [Result.andThen]
 rw [Oper.upon_value]
 go_wp2
 rw [run_callFunc_extern Tryz.func139 (by kernel_rfl) (by kernel_rfl) (by kernel_rfl) (e:=Extern.AbiNoEscape.same) (by kernel_rfl)]
 rw [Lib.run_noEscape]
 simp only [Result.andThen]
 rw [Oper.upon_value]
 go_wp2
 rw [Lib.run_from_unsafe w ⟨b,0,none⟩ Tryz.underlying188 Tryz.underlying94 hj hsh bx169.liesBuilder]
 simp only [Result.andThen]
 rw [Oper.upon_value]
 go_wp2
 go_end0
 exact ⟨rfl,rfl⟩
theorem b_check (B b:Nat) (bs:List Value) (w:World) (h:Lib.IsBuilderF 96 5 B b bs w):
  Calls Tryz.prog 112 #[.pointer (some ⟨b,0,none⟩)] w fun e w'=>e = .returned (.tuple #[])∧(Lib.BuilderAtF 96 5 B b (.pointer (some ⟨b,0,none⟩)) bs w'∧Below B w w'∧Lib.OthersKept 5 (some b) w w'):=by
 rcases h with h | h
 ·refine (b_fresh b w h.cell0 h.shape h.frozen0).mono ?_
  rintro e w' ⟨rfl,rfl⟩
  exact ⟨rfl,h.used _,(Below.refl B w).setCell (p:=⟨b,0,none⟩) h.1 _,(Lib.OthersKept.refl _ _ w).setCell ⟨b,0,none⟩ rfl _⟩
 ·refine (b_used b w h.cell0).mono ?_
  rintro e w' ⟨rfl,rfl⟩
  exact ⟨rfl,h,Below.refl B _,Lib.OthersKept.refl _ _ _⟩
set_option maxHeartbeats 2000000 in
set_option maxRecDepth 100000 in
theorem b_byte (B b:Nat) (bs:List Value) (c:Int) (w:World) (h:Lib.IsBuilderF 96 5 B b bs w) (hlen:bs.length+1≤140737488355328) (hBw:B≤w.heap.size):
  Calls Tryz.prog 70 #[.pointer (some ⟨b,0,none⟩),.int .u8 c] w fun e w'=>e = .returned .nilIface∧(Lib.BuilderAtF 96 5 B b (.pointer (some ⟨b,0,none⟩)) (bs++[.int .u8 c]) w'∧Below B w w'∧Lib.OthersKept 5 (some b) w w'):=by
 obtain ⟨i0,hi,hz0,hz1,hz2⟩:=info_parts bx169.infoByte
 go_enter Tryz.func70,Tryz.ntmps70
 go_wp2_with (go_at_call 112;refine (b_check B b bs _ h).mono ?_)
 rintro e w1 ⟨rfl,h1,hb1,hk1⟩
 obtain ⟨hB,v,hbk,hown,hne⟩:=h1
 have c0:w1.cell? ⟨b,0,none⟩=some (.pointer (some ⟨b,0,none⟩)):=by rw [Lib.cell_of_heap hbk];rfl
 have c1:w1.cell? ⟨b,1,none⟩=some v:=by rw [Lib.cell_of_heap hbk];rfl
 go_wp2_with (at_builtin;refine wpList_append_ownF _ rfl _ _ 26 rfl B 5 i0 (.int .u8 0) 1 1 Tryz.underlying26 hi hz0 hz1 hz2 rfl (by decide) _ _ _ rfl (hown.alloc _) ⟨w1.heap.size,0,none⟩ 1 1 [.int .u8 c] rfl rfl ?c1 ?c2 ?c3 ?c4 ?c5 ?_)
 case c1=>
  intro j u hj
  match j,hj with
  | 0,hj=>simp at hj;subst hj;simp [Addr.add]
 case c2=>intro u hu;simp at hu;subst hu;rfl
 case c3=>unfold maxLen;omega
 case c4=>omega
 case c5=>have:=hb1.size;simp;omega
 intro v' w2 hown' hgrow _
 have hlt:b<w1.heap.size:=(Array.getElem?_eq_some_iff.1 hbk).1
 have hb2:w2.heap[b]?=some (.cells #[.pointer (some ⟨b,0,none⟩),v] 96 (0,0)):=by
  rw [hgrow.block b (by simp;omega) (fun e=>hne e.symm),Lib.alloc_old w1 _ b hlt]
  exact hbk
 have d0:w2.cell? ⟨b,0,none⟩=some (.pointer (some ⟨b,0,none⟩)):=by rw [Lib.cell_of_heap hb2];rfl
 have d1:w2.cell? ⟨b,1,none⟩=some v:=by rw [Lib.cell_of_heap hb2];rfl
 have f1:w2.frozen? ⟨b,1,none⟩=false:=Lib.frozen_of_heap hb2 1
 obtain ⟨g,cap,rfl⟩:∃g cap,v' = .slice (some ⟨g,0,none⟩) (bs.length+1) cap:=by
  rcases hown'.2 with ⟨_,h0⟩ | ⟨g,cap,cur,fz,hv,_⟩
  ·omega
  ·exact ⟨g,cap,hv⟩
 go_wp2
 go_ret
 refine ⟨rfl, ?_, ?_,((hk1.alloc _).grown hgrow (Lib.ownsRowF_kind (hown.alloc _))).setCell ⟨b,1,none⟩ rfl _⟩
 ·exact Lib.BuilderAtF.put (T:=96) (e:=5) hB hb2 (bs':=bs++[.int .u8 c]) (by simpa using hown') (by decide)
 ·exact ((hb1.alloc (by have:=hb1.size;omega) _).grown hgrow (by have:=hb1.size;simp;omega) (fun k hk=>(hown.lt k hk).1)).setCell (p:=⟨b,1,none⟩) hB _
set_option maxHeartbeats 2000000 in
set_option maxRecDepth 100000 in
theorem b_text (B b:Nat) (bs:List Value) (s:ByteArray) (w:World) (h:Lib.IsBuilderF 96 5 B b bs w) (hlen:bs.length+s.size≤140737488355328) (hBw:B≤w.heap.size):
  Calls Tryz.prog 69 #[.pointer (some ⟨b,0,none⟩),.string s] w fun e w'=>e = .returned (.tuple #[.int .i64 s.size,.nilIface])∧(Lib.BuilderAtF 96 5 B b (.pointer (some ⟨b,0,none⟩)) (bs++Lib.strCells s) w'∧Below B w w'∧Lib.OthersKept 5 (some b) w w'):=by
 obtain ⟨i0,hi,hz0,hz1,hz2⟩:=info_parts bx169.infoByte
 go_enter Tryz.func69,Tryz.ntmps69
 go_wp2_with (go_at_call 112;refine (b_check B b bs _ h).mono ?_)
 rintro e w1 ⟨rfl,h1,hb1,hk1⟩
 obtain ⟨hB,v,hbk,hown,hne⟩:=h1
 have c0:w1.cell? ⟨b,0,none⟩=some (.pointer (some ⟨b,0,none⟩)):=by rw [Lib.cell_of_heap hbk];rfl
 have c1:w1.cell? ⟨b,1,none⟩=some v:=by rw [Lib.cell_of_heap hbk];rfl
 go_wp2_with (at_builtin;refine Lib.wpList_append_own_stringF _ rfl _ _ 26 9 rfl B 5 i0 Tryz.underlying26 Tryz.underlying9 hi hz0 hz1 hz2 _ _ _ rfl hown s rfl ?c3 ?c4 ?c5 ?_)
 case c3=>unfold maxLen;omega
 case c4=>omega
 case c5=>have:=hb1.size;omega
 intro v' w2 hown' hgrow _
 have hlt:b<w1.heap.size:=(Array.getElem?_eq_some_iff.1 hbk).1
 have hb2:w2.heap[b]?=some (.cells #[.pointer (some ⟨b,0,none⟩),v] 96 (0,0)):=by
  rw [hgrow.block b hlt (fun e=>hne e.symm)]
  exact hbk
 have d0:w2.cell? ⟨b,0,none⟩=some (.pointer (some ⟨b,0,none⟩)):=by rw [Lib.cell_of_heap hb2];rfl
 have d1:w2.cell? ⟨b,1,none⟩=some v:=by rw [Lib.cell_of_heap hb2];rfl
 have f1:w2.frozen? ⟨b,1,none⟩=false:=Lib.frozen_of_heap hb2 1
 obtain ⟨ao,n',cap,rfl⟩:∃ao n' cap,v' = .slice ao n' cap:=by
  rcases hown'.2 with ⟨hv,_⟩ | ⟨g,cap,cur,fz,hv,_⟩
  ·exact ⟨_,_,_,hv⟩
  ·exact ⟨_,_,_,hv⟩
 go_wp2
 go_ret2
 refine ⟨rfl, ?_, ?_,(hk1.grown hgrow (Lib.ownsRowF_kind hown)).setCell ⟨b,1,none⟩ rfl _⟩
 ·exact Lib.BuilderAtF.put (T:=96) (e:=5) hB hb2 (bs':=bs++Lib.strCells s) (by simpa [Lib.strCells_length] using hown') (by decide)
 ·exact (hb1.grown hgrow (by have:=hb1.size;omega) (fun k hk=>(hown.lt k hk).1)).setCell (p:=⟨b,1,none⟩) hB _
theorem add_block (a:Addr) (k:Nat):(a.add k).block=a.block:=by unfold Addr.add;split <;> rfl
def ItemsAt (w:World) (a:Addr) (xs:List SItem):Prop:=a.block<w.heap.size∧∀(i:Nat) (x:SItem),xs[i]?=some x →
 w.cell? (a.add (i*4))=some (.int .i64 x.1)∧w.cell? ⟨(a.add (i*4)).block,(a.add (i*4)).off+1,none⟩=some (.int .i64 x.2.1)∧w.cell? ⟨(a.add (i*4)).block,(a.add (i*4)).off+2,none⟩=some (.int .i64 x.2.2.1)∧w.cell? ⟨(a.add (i*4)).block,(a.add (i*4)).off+3,none⟩=some (.int .i64 x.2.2.2)
theorem ItemsAt.below {w w':World} {a:Addr} {xs:List SItem} (h:ItemsAt w a xs) {B:Nat} (hb:Below B w w') (hB:a.block<B) {i:Nat} {x:SItem} (hx:xs[i]?=some x):
  w'.cell? (a.add (i*4))=some (.int .i64 x.1)∧w'.cell? ⟨(a.add (i*4)).block,(a.add (i*4)).off+1,none⟩=some (.int .i64 x.2.1)∧w'.cell? ⟨(a.add (i*4)).block,(a.add (i*4)).off+2,none⟩=some (.int .i64 x.2.2.1)∧w'.cell? ⟨(a.add (i*4)).block,(a.add (i*4)).off+3,none⟩=some (.int .i64 x.2.2.2):=by
 obtain ⟨h0,h1,h2,h3⟩:=h.2 i x hx
 refine ⟨?_, ?_, ?_, ?_⟩
 ·rw [hb.cell (by rw [add_block];exact hB)];exact h0
 ·rw [hb.cell (by show (a.add (i*4)).block<B;rw [add_block];exact hB)];exact h1
 ·rw [hb.cell (by show (a.add (i*4)).block<B;rw [add_block];exact hB)];exact h2
 ·rw [hb.cell (by show (a.add (i*4)).block<B;rw [add_block];exact hB)];exact h3
theorem builder_below {B b:Nat} {bs:List Value} {W W':World} (h:Lib.IsBuilderF 96 5 B b bs W) (hb:Below W.heap.size W W'):Lib.IsBuilderF 96 5 B b bs W':=by
 have one:∀p,Lib.BuilderAtF 96 5 B b p bs W→Lib.BuilderAtF 96 5 B b p bs W':=fun p hp=>by
  have hlt:=hp.lt
  obtain ⟨hB,v,hv,hown,hne⟩:=hp
  exact ⟨hB,v,(hb.block b hlt).trans hv,hown.kept (row:=none) ⟨hb.os,hb.tape,hb.output,hb.size,fun k hk _=>hb.block k hk⟩ (Classical.em _),hne⟩
 exact h.elim (fun x=>.inl (one _ x)) (fun x=>.inr (one _ x))
theorem tab_below {B:Nat} {w w':World} (h:Lib.TabIs Tryz.prog w "internal/strconv.uint64pow10" .u64 Lib.pow10Tab) (hb:Below B w w') (hB:2<B):Lib.TabIs Tryz.prog w' "internal/strconv.uint64pow10" .u64 Lib.pow10Tab:=by
 unfold Lib.TabIs World.var? at *
 have hg:Tryz.prog.globalNamed "internal/strconv.uint64pow10"=some 2:=by kernel_rfl
 rw [hg] at h ⊢
 simp only [Option.bind_some] at h ⊢
 rw [hb.block 2 hB];exact h
theorem alloc2 (w:World) (o1 o2:Obj):((w.alloc o1).alloc o2).heap[w.heap.size+1]?=some o2:=by
 have:=heap_alloc_new (w.alloc o1) o2
 rwa [show (w.alloc o1).heap.size=w.heap.size+1 by simp] at this
theorem keyN_snoc (l:List Int) (z:Int):keyN (l++[z])=keyN l++(Lib.itoa z++[32]):=by simp [keyN]
theorem keyS_snoc (l:List SItem) (x:SItem):keyS (l++[x])=keyS l++keyN (nums4 x):=by simp [keyS,keyN,numsS]
theorem keyN_len {l:List Int} (h:∀z∈l,InR .i64 z):(keyN l).length≤22*l.length:=by
 induction l with
 | nil=>simp [keyN]
 | cons z l ih=>
  have h1:=inR_i64.1 (h z (by simp))
  have h2:=Lib.itoa_length_le z h1.1 h1.2
  have h3:=ih fun y hy=>h y (by simp [hy])
  have e:keyN (z::l)=(Lib.itoa z++[32])++keyN l:=by simp [keyN]
  rw [e]
  simp only [List.length_append,List.length_cons,List.length_nil]
  omega
theorem numsS_len (l:List SItem):(numsS l).length=4*l.length:=by
 induction l with
 | nil=>rfl
 | cons x l ih=>simp only [numsS,List.flatMap_cons,List.length_append] at ih ⊢;rw [ih];simp [nums4];omega
set_option maxHeartbeats 4000000 in
set_option maxRecDepth 1000000 in
theorem key_walk (xs:List SItem) (a:Addr) (cap:Nat) (w:World) (hn:xs.length≤1000) (hz:∀x∈xs,∀z∈nums4 x,InR .i64 z) (hc:ItemsAt w a xs) (htab:Lib.TabIs Tryz.prog w "internal/strconv.uint64pow10" .u64 Lib.pow10Tab):
  Calls Tryz.prog 56 #[.slice (some a) xs.length cap] w fun e w'=>e = .returned (.string ⟨(keyS xs).toArray⟩)∧Below w.heap.size w w':=by
 have hpos:2<w.heap.size:=by
  have h:=htab
  unfold Lib.TabIs World.var? at h
  have hg:Tryz.prog.globalNamed "internal/strconv.uint64pow10"=some 2:=by kernel_rfl
  rw [hg] at h
  simp only [Option.bind_some] at h
  rcases Nat.lt_or_ge 2 w.heap.size with hh | hh
  ·exact hh
  ·rw [Array.getElem?_eq_none hh] at h;cases h
 have hlen:∀i,(keyS (xs.take i)).length≤88000:=fun i=>by
  have h1:=keyN_len (l:=numsS (xs.take i)) fun z hzz=>by
   obtain ⟨x,hx,hzx⟩:=List.mem_flatMap.1 hzz
   exact hz x (List.mem_of_mem_take hx) z hzx
  have h2:=numsS_len (xs.take i)
  have h3:(xs.take i).length≤xs.length:=by simp;omega
  show (keyN (numsS (xs.take i))).length≤_
  omega
 go_enter Tryz.func56,Tryz.ntmps56
 go_wp2
 go_loopw [10] (fun v10 wr=>∃i:Nat,v10 = .int .i64 i∧i≤xs.length∧Lib.IsBuilderF 96 5 w.heap.size w.heap.size (Lib.byteCells (keyS (xs.take i))) wr∧Below w.heap.size w wr) (fun v10 _=>xs.length-(Lib.intOf v10).toNat)
 case atStart=>
  refine ⟨0,rfl,Nat.zero_le _,Lib.IsBuilderF.of (Lib.fresh_isBuilder 96 5 w),(Below.refl _ w).alloc (Nat.le_refl _) _⟩
 case round=>
  obtain ⟨i,rfl,hi,hB,hbw⟩:=hrel
  obtain ⟨wo,hwo⟩:∃wo,wo=wr:=⟨wr,rfl⟩
  subst hwo
  by_cases hlt:i<xs.length
  ·obtain ⟨x,hx⟩:∃x,xs[i]?=some x:=⟨xs[i],by simp [hlt]⟩
   have hxm:x∈xs:=List.mem_of_getElem? hx
   obtain ⟨c0,c1,c2,c3⟩:=hc.below hbw hc.1 hx
   have hsz:=hbw.size
   have hli:=hlen i
   go_wp2
   go_loopw [24] (fun v24 wi=>∃j:Nat,v24 = .int .i64 j∧j≤4∧Lib.IsBuilderF 96 5 w.heap.size w.heap.size (Lib.byteCells (keyS (xs.take i)++keyN ((nums4 x).take j))) wi∧wi.heap[wo.heap.size+1]?=some (.cells #[.int .i64 x.1,.int .i64 x.2.1,.int .i64 x.2.2.1,.int .i64 x.2.2.2] 3 (0,0))∧Below w.heap.size w wi) (fun v24 _=>4-(Lib.intOf v24).toNat)
   case atStart=>
    refine ⟨0,rfl,by omega, ?_, ?_, ?_⟩
    ·have:keyS (xs.take i)++keyN ((nums4 x).take 0)=keyS (xs.take i):=by simp [keyN]
     rw [this]
     exact (hB.alloc _).alloc _
    ·exact alloc2 wo _ _
    ·exact (hbw.alloc hsz _).alloc (by simp;omega) _
   case round=>
    obtain ⟨j,rfl,hj,hBi,hgi,hbi⟩:=hrel
    by_cases hjl:j<4
    ·obtain ⟨z,hzj⟩:∃z,(nums4 x)[j]?=some z:=⟨(nums4 x)[j]'(by simpa [nums4] using hjl),by simp [nums4,hjl]⟩
     have hzr:=inR_i64.1 (hz x hxm z (List.mem_of_getElem? hzj))
     have hil:=Lib.itoa_length_le z hzr.1 hzr.2
     have hll:(keyS (xs.take i)++keyN ((nums4 x).take j)).length≤88088:=by
      have h1:=keyN_len (l:=(nums4 x).take j) fun y hy=>hz x hxm y (List.mem_of_mem_take hy)
      have h2:((nums4 x).take j).length≤4:=by simp [nums4];omega
      rw [List.length_append];omega
     have hcell:wr.cell? ⟨wo.heap.size+1,j,none⟩=some (.int .i64 z):=by
      have e:(#[Value.int .i64 x.1,.int .i64 x.2.1,.int .i64 x.2.2.1,.int .i64 x.2.2.2]:Array Value)[j]?=((nums4 x).map (Value.int .i64))[j]?:=by simp [nums4]
      rw [cell_of_row wr (wo.heap.size+1) _ _ 3 (0,0) hgi,e,List.getElem?_map,hzj];rfl
     have hszi:=hbi.size
     have htk:keyS (xs.take i)++keyN ((nums4 x).take (j+1))=(keyS (xs.take i)++keyN ((nums4 x).take j))++(Lib.itoa z++[32]):=by
      rw [List.take_add_one,hzj,Option.toList_some,keyN_snoc,List.append_assoc]
     generalize hK:keyS (xs.take i)++keyN ((nums4 x).take j)=K at *
     go_wp2_with (go_at_call 93;refine (b_itoa z hzr.1 hzr.2 _ (tab_below htab hbi hpos)).mono ?_;rintro e w1 ⟨rfl,k,os,rfl⟩;refine Hid.out ?_)
     refine Lib.hid ?_
     have hb1:Below wr.heap.size wr (Sort.grow (wr.drewN k) os):=Lib.below_grow _ wr (Nat.le_refl _) k os
     generalize Sort.grow (wr.drewN k) os=W1 at *
     have hB1:=builder_below hBi hb1
     have hgl:wo.heap.size+1<wr.heap.size:=(Array.getElem?_eq_some_iff.1 hgi).1
     have hg1:=(hb1.block _ hgl).trans hgi
     have hbi1:=hbi.trans (hb1.mono hszi)
     have hsz1:=hbi1.size
     go_wp2_with (go_at_call 69;refine (b_text w.heap.size w.heap.size _ ⟨(Lib.itoa z).toArray⟩ W1 hB1 (by rw [Lib.byteCells_length];show K.length+(Lib.itoa z).toArray.size≤_;simp;omega) hsz1).mono ?_;rintro e w2 ⟨rfl,h2,b2,k2⟩;refine Hid.out ?_)
     refine Lib.hid ?_
     have hB2:Lib.IsBuilderF 96 5 w.heap.size w.heap.size (Lib.byteCells (K++Lib.itoa z)) w2:=by rw [Lib.byteCells_append];exact .inr h2
     have hg2:=k2 _ _ hg1 (by simp;omega) (by intro c fz he;cases he)
     have hsz2:=(hbi1.trans b2).size
     go_wp2_with (go_at_call 70;refine (b_byte w.heap.size w.heap.size _ 32 w2 hB2 (by rw [Lib.byteCells_length,List.length_append];omega) hsz2).mono ?_;rintro e w3 ⟨rfl,h3,b3,k3⟩;refine Hid.out ?_)
     refine Lib.hid ?_
     have hB3:Lib.IsBuilderF 96 5 w.heap.size w.heap.size (Lib.byteCells (K++(Lib.itoa z++[32]))) w3:=by
      rw [← List.append_assoc,Lib.byteCells_append];exact .inr h3
     have hg3:=k3 _ _ hg2 (by simp;omega) (by intro c fz he;cases he)
     have hb3:=(hbi1.trans b2).trans b3
     go_wp2
     go_roundw
     case rel=>exact ⟨j+1,rfl,by omega,by rw [htk];exact hB3,hg3,hb3⟩
     case measure=>simp [Lib.intOf];omega
    ·have hj4:j=4:=by omega
     subst hj4
     go_wp2
     go_roundw
     case rel=>
      refine ⟨i+1,rfl,by omega, ?_,hbi⟩
      have e:xs.take (i+1)=xs.take i++[x]:=by rw [List.take_add_one,hx];rfl
      rw [e,keyS_snoc]
      have e4:(nums4 x).take 4=nums4 x:=rfl
      rw [e4] at hBi;exact hBi
     case measure=>simp [Lib.intOf];omega
  ·have hin:i=xs.length:=by omega
   subst hin
   go_wp2_with (go_at_call 71;refine (b_string w.heap.size w.heap.size _ _ hB hbw.size).mono ?_)
   rintro e W1 ⟨rfl,_,b1,_⟩
   go_wp2
   go_ret
   exact ⟨by simp,hbw.trans b1⟩
set_option maxHeartbeats 4000000 in
set_option maxRecDepth 1000000 in
theorem key_none (ad:Option Addr) (cap:Nat) (w:World):Calls Tryz.prog 56 #[.slice ad 0 cap] w fun e w'=>e = .returned (.string ⟨#[]⟩)∧Below w.heap.size w w':=by
 go_enter Tryz.func56,Tryz.ntmps56
 go_wp2
 go_loopw [10] (fun v10 wr=>v10 = .int .i64 0∧Lib.IsBuilderF 96 5 w.heap.size w.heap.size (Lib.byteCells []) wr∧Below w.heap.size w wr) (fun _ _=>0)
 case atStart=>
  exact ⟨rfl,Lib.IsBuilderF.of (Lib.fresh_isBuilder 96 5 w),(Below.refl _ w).alloc (Nat.le_refl _) _⟩
 case round=>
  obtain ⟨rfl,hB,hbw⟩:=hrel
  go_wp2_with (go_at_call 71;refine (b_string w.heap.size w.heap.size _ _ hB hbw.size).mono ?_)
  rintro e W1 ⟨rfl,_,b1,_⟩
  go_wp2
  go_ret
  exact ⟨rfl,hbw.trans b1⟩
theorem items_at {w:World} {S:Nat→Prop} {v:Value} {xs:List SItem} (h:SlV En.SItem w S v xs) (hS:∀b,S b→b<w.heap.size) (hne:xs≠[]):∃a cap,v = .slice (some a) xs.length cap∧ItemsAt w a xs∧∀x∈xs,∀z∈nums4 x,InR .i64 z:=by
 obtain ⟨ad,cap,rfl,h1,h2,h3,h4⟩:=h
 obtain ⟨b,off,css,rfl,hb,hE,hc⟩:=h4 hne
 have key:∀(i:Nat) (x:SItem),xs[i]?=some x→∃p q r t:Int,x=(p,q,r,t)∧InR .i64 p∧InR .i64 q∧InR .i64 r∧InR .i64 t∧css[i]?=some [.int .i64 p,.int .i64 q,.int .i64 r,.int .i64 t]:=by
  intro i x hx
  have hlt:i<xs.length:=(List.getElem?_eq_some_iff.1 hx).1
  obtain ⟨cs,hcs⟩:∃cs,css[i]?=some cs:=⟨css[i]'(by rw [hE.1];exact hlt),by simp⟩
  obtain ⟨c0,r0,rfl,⟨rfl,i0⟩,c1,r1,rfl,⟨rfl,i1⟩,c2,c3,rfl,⟨rfl,i2⟩,⟨rfl,i3⟩⟩:=hE.2 i cs x hcs hx
  exact ⟨_,_,_,_,rfl,i0,i1,i2,i3,hcs⟩
 refine ⟨⟨b,off,none⟩,cap,rfl,⟨hS b hb,fun i x hx=>?_⟩,fun x hx z hz=>?_⟩
 ·obtain ⟨p,q,r,t,rfl,_,_,_,_,hcs⟩:=key i x hx
  have hf:=fun (j:Nat) (u:Value) (hu:[Value.int .i64 p,.int .i64 q,.int .i64 r,.int .i64 t][j]?=some u)=>hc _ u (flat_get hE.lens hcs hu)
  have hsz:En.SItem.sz=4:=rfl
  rw [hsz] at hf
  rw [zdo]
  refine ⟨hf 0 _ rfl, ?_, ?_, ?_⟩
  ·have:=hf 1 _ rfl;rw [← Nat.add_assoc] at this;exact this
  ·have:=hf 2 _ rfl;rw [← Nat.add_assoc] at this;exact this
  ·have:=hf 3 _ rfl;rw [← Nat.add_assoc] at this;exact this
 ·obtain ⟨i,hi⟩:=List.getElem?_of_mem hx
  obtain ⟨p,q,r,t,rfl,i0,i1,i2,i3,_⟩:=key i x hi
  simp only [nums4,List.mem_cons,List.not_mem_nil,or_false] at hz
  rcases hz with rfl | rfl | rfl | rfl <;> assumption
theorem keyS_len {l:List SItem} (h:∀x∈l,∀z∈nums4 x,InR .i64 z):(keyS l).length≤88*l.length:=by
 have h1:=keyN_len (l:=numsS l) fun z hzz=>by
  obtain ⟨x,hx,hzx⟩:=List.mem_flatMap.1 hzz
  exact h x hx z hzx
 have h2:=numsS_len l
 show (keyN (numsS l)).length≤_
 omega
theorem item_Key_ok {s_:(List SItem)} {r_:Str} (h:item_Key s_ r_):Fn Tryz.prog 56 [(Pd.rep (En.slice En.SItem) s_)] (Rq (Pd.rep En.str r_)):=by
 obtain ⟨hn,rfl⟩:=h
 refine ⟨call_of Tryz.func56 rfl (by rfl),fun s vs hgl hv=>?_⟩
 match vs,hv with
 | [v],⟨hv,_⟩=>
  have hsl:=zbp.1 hv
  have fin:∀(x:Str) (w':World),x.length≤9223372036854775807→Below s.w.heap.size s.w w'→∃(v:Value) (s':St),Ending.returned (.string ⟨x.toArray⟩) = .returned v∧s'.w=w'∧Ex s s'∧Rq (Pd.rep En.str x) s s' v:=fun x w' hx hb=>
   ⟨_,⟨w',s.X,fun b hb'=>Nat.lt_of_lt_of_le (s.lt b hb') hb.size⟩,rfl,rfl,⟨⟨DR.kit,hb.os,hb.tape,hb.output,hb.size,fun b hb' _=>hb.block b hb',fun _ h=>h.elim,fun b h=>.inl h⟩,fun b h=>h⟩,rep_str.2 ⟨rfl,hx⟩⟩
  by_cases hne:s_=[]
  ·subst hne
   obtain ⟨ad,cap,rfl,_⟩:=hsl
   refine (key_none ad cap s.w).mono fun e w' ⟨he,hb⟩=>?_
   subst he
   exact fin [] w' (by simp) hb
  ·obtain ⟨a,cap,rfl,hat,hz⟩:=items_at hsl (fun b hb=>hb.1) hne
   have htab:Lib.TabIs Tryz.prog s.w "internal/strconv.uint64pow10" .u64 Lib.pow10Tab:=by
    obtain ⟨_,t,fr,h2⟩:=hgl.1 _ (by unfold gtab;exact List.mem_cons_self)
    unfold Lib.TabIs World.var?
    have hg:Tryz.prog.globalNamed "internal/strconv.uint64pow10"=some 2:=by kernel_rfl
    rw [hg]
    simp only [Option.bind_some]
    rw [h2]
    simp [Lib.pow10Tab]
   have hl:=keyS_len hz
   refine (key_walk s_ a cap s.w hn hz hat htab).mono fun e w' ⟨he,hb⟩=>?_
   subst he
   exact fin _ w' (by omega) hb
theorem SlV.same {α:Type} {E:En α} {w w':World} {S:Nat→Prop} {v:Value} {xs:List α} (hs:Same S w w') (h:SlV E w S v xs):SlV E w' S v xs:=by
 have:=(En.slice E).move hs (cs:=[v]) (x:=xs) ⟨v,rfl,h⟩
 obtain ⟨u,e,k⟩:=this
 injection e with e1 e2
 subst e1;exact k
theorem key_any (xs:List SItem) (v:Value) (w:World) (hn:xs.length≤1000) (hv:SlV En.SItem w (fun b=>b<w.heap.size) v xs) (htab:Lib.TabIs Tryz.prog w "internal/strconv.uint64pow10" .u64 Lib.pow10Tab):
  Calls Tryz.prog 56 #[v] w fun e w'=>e = .returned (.string ⟨(keyS xs).toArray⟩)∧Below w.heap.size w w':=by
 by_cases hne:xs=[]
 ·subst hne
  obtain ⟨ad,cap,rfl,_⟩:=hv
  exact key_none ad cap w
 ·obtain ⟨a,cap,rfl,hat,hz⟩:=items_at hv (fun b hb=>hb) hne
  exact key_walk xs a cap w hn hz hat htab
theorem keyL_snoc (l:List (List SItem)) (x:List SItem):keyL (l++[x])=keyL l++(keyS x++[47]):=by simp [keyL]
def StatesAt (w:World) (a:Addr) (l:List (List SItem)):Prop:=a.block<w.heap.size∧∀(i:Nat) (x:List SItem),l[i]?=some x→∃v,w.cell? (a.add i)=some v∧SlV En.SItem w (fun b=>b<w.heap.size) v x
theorem states_z {w:World} {S:Nat→Prop} {v:Value} {xs:List SItem} (h:SlV En.SItem w S v xs) (hS:∀b,S b→b<w.heap.size):∀x∈xs,∀z∈nums4 x,InR .i64 z:=by
 by_cases hne:xs=[]
 ·subst hne;intro x hx;cases hx
 ·obtain ⟨_,_,_,_,hz⟩:=items_at h hS hne
  exact hz
theorem keyL_len {l:List (List SItem)} (h:∀s∈l,s.length≤1000∧∀x∈s,∀z∈nums4 x,InR .i64 z):(keyL l).length≤88001*l.length:=by
 induction l with
 | nil=>simp [keyL]
 | cons s l ih=>
  have h1:=h s (by simp)
  have h2:=keyS_len h1.2
  have h3:=ih fun u hu=>h u (by simp [hu])
  have e:keyL (s::l)=(keyS s++[47])++keyL l:=by simp [keyL]
  rw [e]
  simp only [List.length_append,List.length_cons,List.length_nil]
  omega
set_option maxHeartbeats 4000000 in
set_option maxRecDepth 1000000 in
theorem skey_walk (l:List (List SItem)) (a:Addr) (cap:Nat) (w:World) (hn:l.length≤1000000000) (hl:∀s∈l,s.length≤1000) (hc:StatesAt w a l) (htab:Lib.TabIs Tryz.prog w "internal/strconv.uint64pow10" .u64 Lib.pow10Tab):
  Calls Tryz.prog 35 #[.slice (some a) l.length cap] w fun e w'=>e = .returned (.string ⟨(keyL l).toArray⟩)∧Below w.heap.size w w':=by
 have hpos:2<w.heap.size:=by
  have h:=htab
  unfold Lib.TabIs World.var? at h
  have hg:Tryz.prog.globalNamed "internal/strconv.uint64pow10"=some 2:=by kernel_rfl
  rw [hg] at h
  simp only [Option.bind_some] at h
  rcases Nat.lt_or_ge 2 w.heap.size with hh | hh
  ·exact hh
  ·rw [Array.getElem?_eq_none hh] at h;cases h
 have hzz:∀s∈l,s.length≤1000∧∀x∈s,∀z∈nums4 x,InR .i64 z:=fun s hs=>by
  obtain ⟨i,hi⟩:=List.getElem?_of_mem hs
  obtain ⟨v,_,h2⟩:=hc.2 i s hi
  exact ⟨hl s hs,states_z h2 fun b hb=>hb⟩
 have hlen:∀i,(keyL (l.take i)).length≤88001000000000:=fun i=>by
  have h1:=keyL_len (l:=l.take i) fun s hs=>hzz s (List.mem_of_mem_take hs)
  have h3:(l.take i).length≤l.length:=by simp;omega
  omega
 go_enter Tryz.func35,Tryz.ntmps35
 go_wp2
 go_loopw [8] (fun v8 wr=>∃i:Nat,v8 = .int .i64 i∧i≤l.length∧Lib.IsBuilderF 96 5 w.heap.size w.heap.size (Lib.byteCells (keyL (l.take i))) wr∧Below w.heap.size w wr) (fun v8 _=>l.length-(Lib.intOf v8).toNat)
 case atStart=>
  refine ⟨0,rfl,Nat.zero_le _,Lib.IsBuilderF.of (Lib.fresh_isBuilder 96 5 w),(Below.refl _ w).alloc (Nat.le_refl _) _⟩
 case round=>
  obtain ⟨i,rfl,hi,hB,hbw⟩:=hrel
  by_cases hlt:i<l.length
  ·obtain ⟨x,hx⟩:∃x,l[i]?=some x:=⟨l[i],by simp [hlt]⟩
   have hxm:x∈l:=List.mem_of_getElem? hx
   obtain ⟨v,c0,hsv⟩:=hc.2 i x hx
   have c1:wr.cell? (a.add i)=some v:=by rw [hbw.cell (by rw [add_block];exact hc.1)];exact c0
   have hsz:=hbw.size
   have hsv1:SlV En.SItem wr (fun b=>b<wr.heap.size) v x:=by
    have h1:=SlV.same (w':=wr) (fun b hb=>hbw.block b hb) hsv
    obtain ⟨u,e,k⟩:=(En.slice En.SItem).mono (S':=fun b=>b<wr.heap.size) (fun b hb=>Nat.lt_of_lt_of_le hb hsz) (cs:=[v]) (x:=x) ⟨v,rfl,h1⟩
    injection e with e1 e2
    subst e1;exact k
   have hli:=hlen i
   have hkl:=keyS_len (hzz x hxm).2
   have hx1000:=hl x hxm
   have htk:keyL (l.take (i+1))=keyL (l.take i)++(keyS x++[47]):=by
    rw [List.take_add_one,hx,Option.toList_some,keyL_snoc]
   generalize hK:keyL (l.take i)=K at *
   go_wp2_with (go_at_call 56;refine (key_any x v _ hx1000 hsv1 (tab_below htab hbw hpos)).mono ?_;rintro e w1 ⟨rfl,hb1⟩;refine Hid.out ?_)
   refine Lib.hid ?_
   have hB1:=builder_below hB hb1
   have hbw1:=hbw.trans (hb1.mono hsz)
   have hsz1:=hbw1.size
   go_wp2_with (go_at_call 69;refine (b_text w.heap.size w.heap.size _ ⟨(keyS x).toArray⟩ w1 hB1 (by rw [Lib.byteCells_length];show K.length+(keyS x).toArray.size≤_;simp;omega) hsz1).mono ?_;rintro e w2 ⟨rfl,h2,b2,k2⟩;refine Hid.out ?_)
   refine Lib.hid ?_
   have hB2:Lib.IsBuilderF 96 5 w.heap.size w.heap.size (Lib.byteCells (K++keyS x)) w2:=by rw [Lib.byteCells_append];exact .inr h2
   have hsz2:=(hbw1.trans b2).size
   go_wp2_with (go_at_call 70;refine (b_byte w.heap.size w.heap.size _ 47 w2 hB2 (by rw [Lib.byteCells_length,List.length_append];omega) hsz2).mono ?_;rintro e w3 ⟨rfl,h3,b3,k3⟩;refine Hid.out ?_)
   refine Lib.hid ?_
   have hB3:Lib.IsBuilderF 96 5 w.heap.size w.heap.size (Lib.byteCells (K++(keyS x++[47]))) w3:=by
    rw [← List.append_assoc,Lib.byteCells_append];exact .inr h3
   have hb3:=(hbw1.trans b2).trans b3
   go_wp2
   go_roundw
   case rel=>exact ⟨i+1,rfl,by omega,by rw [htk];exact hB3,hb3⟩
   case measure=>simp [Lib.intOf];omega
  ·have hin:i=l.length:=by omega
   subst hin
   go_wp2_with (go_at_call 71;refine (b_string w.heap.size w.heap.size _ _ hB hbw.size).mono ?_)
   rintro e W1 ⟨rfl,_,b1,_⟩
   go_wp2
   go_ret
   exact ⟨by simp,hbw.trans b1⟩
set_option maxHeartbeats 4000000 in
set_option maxRecDepth 1000000 in
theorem skey_none (ad:Option Addr) (cap:Nat) (w:World):Calls Tryz.prog 35 #[.slice ad 0 cap] w fun e w'=>e = .returned (.string ⟨#[]⟩)∧Below w.heap.size w w':=by
 go_enter Tryz.func35,Tryz.ntmps35
 go_wp2
 go_loopw [8] (fun v8 wr=>v8 = .int .i64 0∧Lib.IsBuilderF 96 5 w.heap.size w.heap.size (Lib.byteCells []) wr∧Below w.heap.size w wr) (fun _ _=>0)
 case atStart=>
  exact ⟨rfl,Lib.IsBuilderF.of (Lib.fresh_isBuilder 96 5 w),(Below.refl _ w).alloc (Nat.le_refl _) _⟩
 case round=>
  obtain ⟨rfl,hB,hbw⟩:=hrel
  go_wp2_with (go_at_call 71;refine (b_string w.heap.size w.heap.size _ _ hB hbw.size).mono ?_)
  rintro e W1 ⟨rfl,_,b1,_⟩
  go_wp2
  go_ret
  exact ⟨rfl,hbw.trans b1⟩
theorem sets_Key_ok {l_:(List (List SItem))} {r_:Str} (h:sets_Key l_ r_):Fn Tryz.prog 35 [(Pd.rep (En.slice (En.slice En.SItem)) l_)] (Rq (Pd.rep En.str r_)):=by
 obtain ⟨hn,hl,rfl⟩:=h
 refine ⟨call_of Tryz.func35 rfl (by rfl),fun s vs hgl hv=>?_⟩
 match vs,hv with
 | [v],⟨hv,_⟩=>
  have hsl:=zbp.1 hv
  have fin:∀(x:Str) (w':World),x.length≤9223372036854775807→Below s.w.heap.size s.w w'→∃(v:Value) (s':St),Ending.returned (.string ⟨x.toArray⟩) = .returned v∧s'.w=w'∧Ex s s'∧Rq (Pd.rep En.str x) s s' v:=fun x w' hx hb=>
   ⟨_,⟨w',s.X,fun b hb'=>Nat.lt_of_lt_of_le (s.lt b hb') hb.size⟩,rfl,rfl,⟨⟨DR.kit,hb.os,hb.tape,hb.output,hb.size,fun b hb' _=>hb.block b hb',fun _ h=>h.elim,fun b h=>.inl h⟩,fun b h=>h⟩,rep_str.2 ⟨rfl,hx⟩⟩
  by_cases hne:l_=[]
  ·subst hne
   obtain ⟨ad,cap,rfl,_⟩:=hsl
   refine (skey_none ad cap s.w).mono fun e w' ⟨he,hb⟩=>?_
   subst he
   exact fin [] w' (by simp) hb
  ·obtain ⟨ad,cap,rfl,h1,h2,h3,h4⟩:=hsl
   obtain ⟨b,off,css,rfl,hb,hE,hc⟩:=h4 hne
   have hat:StatesAt s.w ⟨b,off,none⟩ l_:=by
    refine ⟨hb.1,fun i x hx=>?_⟩
    have hlt:i<l_.length:=(List.getElem?_eq_some_iff.1 hx).1
    obtain ⟨cs,hcs⟩:∃cs,css[i]?=some cs:=⟨css[i]'(by rw [hE.1];exact hlt),by simp⟩
    obtain ⟨u,rfl,hu⟩:=hE.2 i cs x hcs hx
    refine ⟨u, ?_, ?_⟩
    ·have:=hc _ u (flat_get hE.lens hcs (j:=0) rfl)
     have e1:(En.slice En.SItem).sz=1:=rfl
     rw [e1,Nat.mul_one] at this
     rw [zdo];exact this
    ·obtain ⟨u',e,k⟩:=(En.slice En.SItem).mono (S':=fun b=>b<s.w.heap.size) (fun b hb=>hb.1) (cs:=[u]) (x:=x) ⟨u,rfl,hu⟩
     injection e with e1 e2
     subst e1;exact k
   have htab:Lib.TabIs Tryz.prog s.w "internal/strconv.uint64pow10" .u64 Lib.pow10Tab:=by
    obtain ⟨_,t,fr,h2⟩:=hgl.1 _ (by unfold gtab;exact List.mem_cons_self)
    unfold Lib.TabIs World.var?
    have hg:Tryz.prog.globalNamed "internal/strconv.uint64pow10"=some 2:=by kernel_rfl
    rw [hg]
    simp only [Option.bind_some]
    rw [h2]
    simp [Lib.pow10Tab]
   have hzz:∀s'∈l_,s'.length≤1000∧∀x∈s',∀z∈nums4 x,InR .i64 z:=fun s' hs=>by
    obtain ⟨i,hi⟩:=List.getElem?_of_mem hs
    obtain ⟨v,_,h2⟩:=hat.2 i s' hi
    exact ⟨hl s' hs,states_z h2 fun b hb=>hb⟩
   have hll:=keyL_len hzz
   refine (skey_walk l_ ⟨b,off,none⟩ cap s.w hn hl hat htab).mono fun e w' ⟨he,hb⟩=>?_
   subst he
   exact fin _ w' (by omega) hb
end Go.Proofs.YtahgmdbioafmbaaGreatDoor.V
namespace Go.Proofs.YtahgmdbioafmbaaGreatDoor.V
open Go
set_option linter.unusedVariables false
def Pd.zr (N te sz g len:Nat):Pd:=
 ⟨fun s v=>N≤g∧s.X g∧∃cap cur,v = .slice (some ⟨g,0,none⟩) len cap∧s.w.heap[g]?=some (.cells cur te (0,0))∧cur.size=cap*sz∧cap≤maxLen∧len≤cap,fun b=>some g=some b,
  fun {T s s' v} h hb ⟨h1,h2,cap,cur,h3,h4,h5⟩=>⟨h1,(hb g rfl).2 h2,cap,cur,h3,by rw [h.blk g (Array.getElem?_eq_some_iff.1 h4).1 (hb g rfl).1];exact h4,h5⟩⟩
section
variable {P : Program} {ops : Array Oper} {o : Oper} {L : Lst} {α : Type} {E : En α} {xs : List α}
theorem t_capn {y:Operand} {t te:TypeId} (hy:Opn L y (Pd.rep (En.nilv E) xs)) (ht:P.underlying t=some (.slice te)) (ho:o.op = .call { callee:=.builtin .cap,args:=#[y],argTypes:=#[t] }) (hg:o.guard=none):T P ops o L (Pd.rep (En.int .i64) 0):=
 T.pure hg fun M n s0 ac s hL=>by
  have hv:=(rep_nilv.1 (hy M n s0 ac s hL)).1
  refine ⟨.int .i64 0, ?_,zx.2 ⟨rfl,by decide⟩⟩
  unfold execOp;rw [ho];simp [resolve,invoke,builtin,hv,Builtin.cap_,run_underlying ht,goInt]
theorem t_lenn {y:Operand} {t te:TypeId} (hy:Opn L y (Pd.rep (En.nilv E) xs)) (ht:P.underlying t=some (.slice te)) (ho:o.op = .call { callee:=.builtin .len,args:=#[y],argTypes:=#[t] }) (hg:o.guard=none):T P ops o L (Pd.rep (En.int .i64) 0):=
 T.pure hg fun M n s0 ac s hL=>by
  have hv:=(rep_nilv.1 (hy M n s0 ac s hL)).1
  refine ⟨.int .i64 0, ?_,zx.2 ⟨rfl,by decide⟩⟩
  unfold execOp;rw [ho];simp [resolve,invoke,builtin,hv,Builtin.len_,run_underlying ht,goInt]
theorem t_to0 {y z:Operand} {t te:TypeId} (hy:Opn L y (Pd.rep (En.nilv E) xs)) (hz:Opn L z (Pd.rep (En.int .i64) 0)) (ht:P.underlying t=some (.slice te)) (hE:Ty P te E) (ho:o.op = .slice t y none (some z) none) (hg:o.guard=none):T P ops o L (Pd.rep (En.nilv E) xs):=
 T.pure hg fun M n s0 ac s hL=>by
  obtain ⟨hv,hxs⟩:=rep_nilv.1 (hy M n s0 ac s hL)
  have hzv:=(zx.1 (hz M n s0 ac s hL)).1
  refine ⟨.slice none 0 0, ?_,rep_nilv.2 ⟨rfl,hxs⟩⟩
  unfold execOp;rw [ho]
  simp [hv,hzv,Instr.sliceAt,run_underlying ht,Instr.slice,Instr.sliceBounds,Instr.sliceBound,asIntOf,zbd hE]
theorem st_zeros {Q:Exit→Act→World→Prop} {rest:List Oper} {M:Nat→Prop} {n:Nat} {s0:St} {a:Act} {s:St} {t u te:TypeId} {x y:Operand} {k:Int} (d:Nat) (hL:Has M n s0 a s L) (hx:Opn L x (Pd.rep (En.nilv E) xs)) (hy:Opn L y (Pd.rep (En.int .i64) k)) (hk0:0<k) (hk1:k≤2147483648)
  (ht:P.underlying t=some (.slice te)) (hu:P.underlying u=some (.int .i64)) (hE:Ty P te E) (ho:o.op = .call { callee:=.builtin .append,args:=#[x,y],argTypes:=#[t,u] }) (hg:o.guard=none) (hd:o.dst=some d) (hn:Nat.blt d n=true)
  (kk:∀a' s' g,Has M n s0 a' s' ((d,Pd.zr s0.w.heap.size te E.sz g k.toNat)::L)→wpList P ops Q rest a' s'.w):wpList P ops Q (o::rest) a s.w:=by
 obtain ⟨hv,_⟩:=rep_nilv.1 (hx M n s0 a s hL)
 have hkv:=(zx.1 (hy M n s0 a s hL)).1
 obtain ⟨i,z,hi,hsz,hz,hzs,hby⟩:=hE.info
 obtain ⟨j,rfl⟩:∃j:Nat,k=(j:Int):=⟨k.toNat,by omega⟩
 have hj:0<j:=by omega
 have hcap:j≤grownCap s.w j 0 te:=grownCap_ge _ _ _ _
 have hr:(execOp a.eval o).run P s.w = .ok (.value (.slice (some ⟨s.w.heap.size,0,none⟩) j (grownCap s.w j 0 te))) (s.w.drew.alloc (.cells (Builtin.zeroCells z.cells j++Builtin.zeroCells z.cells (grownCap s.w j 0 te-j)) te)):=by
  unfold execOp;rw [ho]
  have h0:¬ ((j:Int)<0):=by omega
  have hw:IntKind.wrap .i64 (j:Int)=j:=wrap_in (inR_i64.2 ⟨by omega,by omega⟩)
  have hb:j*i.bytes≤140737488355328:=by
   have:=Nat.mul_le_mul (show j≤2147483648 by omega) hby
   omega
  have hb2:¬ ((281474976710656:Int)<(j:Int)*(i.bytes:Int)):=by
   rw [← Int.natCast_mul];omega
  have h48:¬ (281474976710656<Builtin.nextslicecap j 0*i.bytes):=by rw [nextslicecap_zero hj];omega
  have h63:¬ (9223372036854775807<(j:Int)):=by omega
  have hjn:¬ j=0:=by omega
  have hs0:¬ (j*E.sz=0):=by have:=Nat.mul_pos hj E.pos;omega
  simp [resolve,invoke,builtin,hv,hkv,Builtin.append_,run_underlying ht,run_underlying hu,sizeOf,typeInfo,zeroValue,hi,hz,asInt,asIntOf,h0,hw,hjn,hb2,h48,h63,hs0,hsz,Question.forced,newRow,grownCap,run_firstCells_none]
 refine wpList_plain hg fun K hK=>?_
 unfold Oper.wp
 rw [hr]
 refine hK _ _ ?_
 simp only [hd]
 have e:Ex s ⟨(s.w.drew.alloc (.cells (Builtin.zeroCells z.cells j++Builtin.zeroCells z.cells (grownCap s.w j 0 te-j)) te)),fun b=>s.X b∨b=s.w.heap.size,fun b hb=>hb.elim (fun h=>Nat.lt_of_lt_of_le (s.lt b h) (by simp)) (fun h=>by subst h;simp)⟩:=
  ⟨⟨DR.succ rfl,rfl,rfl,rfl,by simp,fun b hb _=>Go.RowKit.Below.heap_alloc s.w.drew _ b hb,fun _ h=>h.elim,fun b hb=>hb.imp id (fun h=>Nat.le_of_eq h.symm)⟩,fun b hb=>.inl hb⟩
 refine kk _ _ s.w.heap.size (hL.put e hn ⟨hL.ent.mv.size,.inr rfl,grownCap s.w j 0 te,_,rfl,heap_alloc_new s.w.drew _, ?_,grownCap_le_maxLen _ _ _ _ (by unfold maxLen;omega),hcap⟩)
 simp only [Array.size_append,size_zeroCells,hzs]
 rw [← Nat.add_mul]
 congr 1
 omega
theorem t_row0 {t te:TypeId} {x z:Operand} {N g len:Nat} (hx:Opn L x (Pd.zr N te E.sz g len)) (hz:Opn L z (Pd.rep (En.int .i64) 0)) (ht:P.underlying t=some (.slice te)) (hE:Ty P te E) (ho:o.op = .slice t x none (some z) none) (hg:o.guard=none):T P ops o L (Pd.row E N te (some g) []):=
 T.pure hg fun M n s0 a s hL=>by
  obtain ⟨hN,hX,cap,cur,hv,hgb,hcs,hcm,hlc⟩:=hx M n s0 a s hL
  have hzv:=(zx.1 (hz M n s0 a s hL)).1
  refine ⟨.slice (some ⟨g,0,none⟩) 0 cap, ?_,rfl,fun b hb=>by cases hb;exact hX,Nat.zero_le _,[],⟨rfl,by simp⟩,by simp,.inr ⟨g,cap,cur,rfl,hN,hgb,Nat.zero_le _,hcm,hcs,by simp⟩⟩
  unfold execOp;rw [ho]
  simp [hv,hzv,Instr.sliceAt,run_underlying ht,Instr.slice,Instr.sliceBounds,Instr.sliceBound,asIntOf,zbd hE,Addr.add]
end
set_option maxRecDepth 100000
theorem zeg {x_:List SItem} {n_:Int} {r_:List SItem} (h:zdf x_ n_ r_):Fn Tryz.prog 145 [(Pd.rep (En.nilv En.SItem) x_),(Pd.rep (En.int .i64) n_)] (Ro En.SItem 77 r_):=by
 obtain ⟨h0,h1,rfl⟩:=h
 refine fn_of Tryz.func145 rfl Tryz.ntmps145 (by rfl) (by simp) fun s0 a hL=>?_
 refine wp_seq_k fun K1 hK1=>?_
 refine rg ?_
 refine st 4 (zd (q:=Pd.any) (fun _ _ _ _ _ _=>trivial) rfl rfl) rfl rfl hL fun a s e_ hL=>?_
 refine en' ?_
 show K1 a s.w;refine hK1 _ _ ?_
 refine wp_seq_k fun K2 hK2=>?_
 refine wp_seq_k fun K3 hK3=>?_
 refine rg ?_
 refine st 5 (zb (o_t 1 rfl) rfl rfl) rfl rfl hL fun a s e_ hL=>?_
 refine st 6 (t_lss (o_t 5 rfl) (o_i (by decide)) rfl rfl) rfl rfl hL fun a s e_ hL=>?_
 refine en' ?_
 show K3 a s.w;refine hK3 _ _ ?_
 refine cnd hL rfl (fun hb_=>absurd hb_ (by simp;omega)) (fun _=>?_)
 refine wp_skip ?_
 show K2 a s.w;refine hK2 _ _ ?_
 refine wp_seq_k fun K4 hK4=>?_
 refine wp_seq_k fun K5 hK5=>?_
 refine rg ?_
 refine st 8 (zb (o_t 1 rfl) rfl rfl) rfl rfl hL fun a s e_ hL=>?_
 refine st 9 (zb (o_t 0 rfl) rfl rfl) rfl rfl hL fun a s e_ hL=>?_
 refine st 10 (t_capn (o_t 9 rfl) Tryz.underlying47 rfl rfl) rfl rfl hL fun a s e_ hL=>?_
 refine st 11 (zb (o_t 0 rfl) rfl rfl) rfl rfl hL fun a s e_ hL=>?_
 refine st 12 (t_lenn (o_t 11 rfl) Tryz.underlying47 rfl rfl) rfl rfl hL fun a s e_ hL=>?_
 refine st 13 (t_sub (o_t 10 rfl) (o_t 12 rfl) (by decide) rfl rfl) rfl rfl hL fun a s e_ hL=>?_
 refine st 14 (t_sub (o_t 8 rfl) (o_t 13 rfl) (inR_i64.2 ⟨by omega,by omega⟩) rfl rfl) rfl rfl hL fun a s e_ hL=>?_
 refine st 1 (zd (o_t 14 rfl) rfl rfl) rfl rfl hL fun a s e_ hL=>?_
 refine en' ?_
 show K5 a s.w;refine hK5 _ _ ?_
 refine wp_seq_k fun K6 hK6=>?_
 refine rg ?_
 refine st 15 (zb (o_t 1 rfl) rfl rfl) rfl rfl hL fun a s e_ hL=>?_
 refine st 16 (t_gtr (o_t 15 rfl) (o_i (by decide)) rfl rfl) rfl rfl hL fun a s e_ hL=>?_
 refine en' ?_
 show K6 a s.w;refine hK6 _ _ ?_
 have fin:∀(a:Act) (s:St) (L:Lst) (og:Option Nat),Has N0 27 s0 a s L→lk L 0=some (Pd.row En.SItem s0.w.heap.size 77 og [])→K4 a s.w:=fun a s L og hL h0=>by
  refine hK4 _ _ ?_
  refine wp_seq_k fun K7 hK7=>?_
  refine rg ?_
  refine st 26 (zb (o_t 0 h0) rfl rfl) rfl rfl hL fun a s e_ hL=>?_
  refine st 4 (zd (o_t 26 rfl) rfl rfl) rfl rfl hL fun a s e_ hL=>?_
  refine en' ?_
  show K7 a s.w;refine hK7 _ _ ?_
  exact wp_ret (reto rfl hL rfl)
 refine cnd hL rfl (fun hb_=>?_) (fun hb_=>?_)
 ·have hpos:0<n_-(0-0):=by simpa using hb_
  refine rg ?_
  refine st 17 (zb (o_t 0 rfl) rfl rfl) rfl rfl hL fun a s e_ hL=>?_
  refine st 18 (zb (o_t 0 rfl) rfl rfl) rfl rfl hL fun a s e_ hL=>?_
  refine st 19 (t_capn (o_t 18 rfl) Tryz.underlying47 rfl rfl) rfl rfl hL fun a s e_ hL=>?_
  refine st 20 (t_to0 (o_t 17 rfl) (o_t 19 rfl) Tryz.underlying47 ty77 rfl rfl) rfl rfl hL fun a s e_ hL=>?_
  refine st 21 (zb (o_t 1 rfl) rfl rfl) rfl rfl hL fun a s e_ hL=>?_
  refine st_zeros 22 hL (o_t 20 rfl) (o_t 21 rfl) hpos (by omega) Tryz.underlying47 Tryz.underlying3 ty77 rfl rfl rfl rfl fun a s g hL=>?_
  refine st 23 (zb (o_t 0 rfl) rfl rfl) rfl rfl hL fun a s e_ hL=>?_
  refine st 24 (t_lenn (o_t 23 rfl) Tryz.underlying47 rfl rfl) rfl rfl hL fun a s e_ hL=>?_
  refine st 25 (t_row0 (o_t 22 rfl) (o_t 24 rfl) Tryz.underlying47 ty77 rfl rfl) rfl rfl hL fun a s e_ hL=>?_
  refine st 0 (zd (o_t 25 rfl) rfl rfl) rfl rfl hL fun a s e_ hL=>?_
  refine en' ?_
  exact fin a s _ (some g) hL rfl
 ·refine wp_skip ?_
  have hv:=(rep_nilv.1 (hL.get 0 rfl)).1
  have hx:=(rep_nilv.1 (hL.get 0 rfl)).2
  have hL2:=hL.cons 0 (q:=Pd.row En.SItem s0.w.heap.size 77 none []) (by rw [hv];exact own_nil _ _ _ _)
  exact fin a s _ none hL2 rfl
end Go.Proofs.YtahgmdbioafmbaaGreatDoor.V
namespace Go.Proofs.YtahgmdbioafmbaaGreatDoor.V
open Go
set_option linter.unusedVariables false
def zi.j1 (r_:(List SItem)) (newslice13:(List SItem)):Prop:=r_=newslice13
def zi.l1 (slices_:(List (List SItem))) (X1:(List SItem)→Prop):Nat→(List SItem)→Int→Prop
 | 0,_,_=>False
 | k_0+1,newslice17,v19=>((decide (v19<(slices_.length:Int)))=true→∃e27:(List SItem),at? slices_ v19=some e27∧(newslice17.length+e27.length≤2147483648)∧(InR .i64 (v19+1))∧zi.l1 slices_ X1 k_0 (newslice17++e27) (v19+1))∧((decide (v19<(slices_.length:Int)))=false→X1 newslice17)
def zi.j2 (slices_:(List (List SItem))) (r_:(List SItem)) (size5:Int):Prop:=∃r8:(List SItem),zdf [] size5 r8∧∃k20,zi.l1 slices_ (zi.j1 r_) k20 r8 0
def zi.l2 (slices_:(List (List SItem))) (X2:Int→Prop):Nat→Int→Int→Prop
 | 0,_,_=>False
 | k_0+1,size32,v33=>((decide (v33<(slices_.length:Int)))=true→∃e41:(List SItem),at? slices_ v33=some e41∧(InR .i64 (size32+(e41.length:Int)))∧((decide (size32+(e41.length:Int)<0))=true→False)∧((decide (size32+(e41.length:Int)<0))=false→(InR .i64 (v33+1))∧zi.l2 slices_ X2 k_0 (size32+(e41.length:Int)) (v33+1)))∧((decide (v33<(slices_.length:Int)))=false→X2 size32)
def zi (slices_:(List (List SItem))) (r_:(List SItem)):Prop:=∃k34,zi.l2 slices_ (zi.j2 slices_ r_) k34 0 0
def zd0 (x_:Int) (r_:Bool):Prop:=r_=(x_ != x_)
def zcr (x_:Int) (y_:Int) (r_:Int):Prop:=∃r3:Bool,zd0 x_ r3∧∃r6:Bool,zd0 y_ r6∧((r3)=true→((r6)=true→r_=0)∧((r6)=false→r_=(-1)))∧((r3)=false→((r6)=true→r_=1)∧((r6)=false→((decide (x_<y_))=true→r_=(-1))∧((decide (x_<y_))=false→((decide (y_<x_))=true→r_=1)∧((decide (y_<x_))=false→r_=0))))
def zh.j1 (s1_:(List SItem)) (s2_:(List SItem)) (r_:Int):Prop:=((decide ((s1_.length:Int)<(s2_.length:Int)))=true→r_=(-1))∧((decide ((s1_.length:Int)<(s2_.length:Int)))=false→r_=0)
def zh.l1 (s1_:(List SItem)) (s2_:(List SItem)) (cmp_:(SItem × SItem × Int→Prop)) (r_:Int) (X1:Prop):Nat→Int→Prop
 | 0,_=>False
 | k_0+1,v9=>((decide (v9<(s1_.length:Int)))=true→∃e17:SItem,at? s1_ v9=some e17∧((decide ((s2_.length:Int)≤v9))=true→r_=1)∧((decide ((s2_.length:Int)≤v9))=false→∃e24:SItem,at? s2_ v9=some e24∧∃r29:Int,cmp_ (e17,e24,r29)∧(((r29 != 0))=true→r_=r29)∧(((r29 != 0))=false→(InR .i64 (v9+1))∧zh.l1 s1_ s2_ cmp_ r_ X1 k_0 (v9+1))))∧((decide (v9<(s1_.length:Int)))=false→X1)
def zh (s1_:(List SItem)) (s2_:(List SItem)) (cmp_:(SItem × SItem × Int→Prop)) (r_:Int):Prop:=∃k10,zh.l1 s1_ s2_ cmp_ r_ (zh.j1 s1_ s2_ r_) k10 0
def zcl.j1 (r_:Int):Prop:=r_=0
def zcl.l1 (vals_:(List Int)) (r_:Int) (X1:Prop):Nat→Int→Prop
 | 0,_=>False
 | k_0+1,v7=>((decide (v7<(vals_.length:Int)))=true→∃e15:Int,at? vals_ v7=some e15∧(((e15 != 0))=true→r_=e15)∧(((e15 != 0))=false→(InR .i64 (v7+1))∧zcl.l1 vals_ r_ X1 k_0 (v7+1)))∧((decide (v7<(vals_.length:Int)))=false→X1)
def zcl (vals_:(List Int)) (r_:Int):Prop:=∃k8,zcl.l1 vals_ r_ (zcl.j1 r_) k8 0
def zby (s_:(List SItem)) (r_:(List SItem)):Prop:=∀b4:Bool,(b4=true→s_=[])→((b4)=true→r_=([]:(List SItem)))∧((b4)=false→(([]:(List SItem)).length+s_.length≤2147483648)∧r_=([]:(List SItem))++s_)
def zm.j1 (r_:Int):Prop:=r_=(-1)
def zm.l1 (s_:(List (List SItem))) (f_:((List SItem) × Bool→Prop)) (r_:Int) (X1:Prop):Nat→Int→Prop
 | 0,_=>False
 | k_0+1,v6=>((decide (v6<(s_.length:Int)))=true→∃e15:(List SItem),at? s_ v6=some e15∧∃r17:Bool,f_ (e15,r17)∧((r17)=true→r_=v6)∧((r17)=false→(InR .i64 (v6+1))∧zm.l1 s_ f_ r_ X1 k_0 (v6+1)))∧((decide (v6<(s_.length:Int)))=false→X1)
def zm (s_:(List (List SItem))) (f_:((List SItem) × Bool→Prop)) (r_:Int):Prop:=∃k7,zm.l1 s_ f_ r_ (zm.j1 r_) k7 0
def zbi (s_:(List (List SItem))) (f_:((List SItem) × Bool→Prop)) (r_:Bool):Prop:=∃r3:Int,zm s_ f_ r3∧r_=decide (0≤r3)
def zf.j1 (r_:(List Cl)) (data3:(List Cl)):Prop:=r_=data3
def zf.j2 (L1_:(List Cl)→Int→Prop) (i6:Int) (data14:(List Cl)):Prop:=(InR .i64 (i6+1))∧L1_ data14 (i6+1)
def zf.l2 (a_:Int) (cmp_:(Cl × Cl × Int→Prop)) (X2:(List Cl)→Prop):Nat→(List Cl)→Int→Prop
 | 0,_,_=>False
 | k_0+1,data17,j18=>∃e24:Cl,(((decide (a_<j18))=true)→at? data17 j18=some e24)∧(((decide (a_<j18))=true)→InR .i64 (j18-1))∧∃e27:Cl,(((decide (a_<j18))=true)→at? data17 (j18-1)=some e27)∧∃r29:Int,(((decide (a_<j18))=true)→cmp_ (e24,e27,r29))∧((((decide (a_<j18))&&(decide (r29<0))))=true→(InR .i64 (j18-1))∧(InR .i64 (j18-1))∧∃e34:Cl,at? data17 (j18-1)=some e34∧∃e36:Cl,at? data17 j18=some e36∧∃e38:Cl,at? data17 j18=some e38∧∃e40:Cl,at? (data17.set (j18:Int).toNat e34) (j18-1)=some e40∧(InR .i64 (j18-1))∧zf.l2 a_ cmp_ X2 k_0 ((data17.set (j18:Int).toNat e34).set (j18-1:Int).toNat e36) (j18-1))∧((((decide (a_<j18))&&(decide (r29<0))))=false→X2 data17)
def zf.l1 (a_:Int) (b_:Int) (cmp_:(Cl × Cl × Int→Prop)) (X1:(List Cl)→Prop):Nat→(List Cl)→Int→Prop
 | 0,_,_=>False
 | k_0+1,data5,i6=>((decide (i6<b_))=true→∃k19,zf.l2 a_ cmp_ (zf.j2 (zf.l1 a_ b_ cmp_ X1 k_0) i6) k19 data5 i6)∧((decide (i6<b_))=false→X1 data5)
def zf (data_:(List Cl)) (a_:Int) (b_:Int) (cmp_:(Cl × Cl × Int→Prop)) (r_:(List Cl)):Prop:=(InR .i64 (a_+1))∧∃k7,zf.l1 a_ b_ cmp_ (zf.j1 r_) k7 data_ (a_+1)
def zl.j1 (r_:(List Cl)) (data2:(List Cl)):Prop:=r_=data2
def zl.l1 (a_:Int) (b_:Int) (nv_:Int) (X1:(List Cl)→Prop):Nat→(List Cl)→Int→Prop
 | 0,_,_=>False
 | k_0+1,data4,i5=>((decide (i5<nv_))=true→(InR .i64 (a_+i5))∧(InR .i64 (b_+i5))∧(InR .i64 (b_+i5))∧∃e15:Cl,at? data4 (b_+i5)=some e15∧(InR .i64 (a_+i5))∧∃e18:Cl,at? data4 (a_+i5)=some e18∧∃e20:Cl,at? data4 (a_+i5)=some e20∧∃e22:Cl,at? (data4.set (a_+i5:Int).toNat e15) (b_+i5)=some e22∧(InR .i64 (i5+1))∧zl.l1 a_ b_ nv_ X1 k_0 ((data4.set (a_+i5:Int).toNat e15).set (b_+i5:Int).toNat e18) (i5+1))∧((decide (i5<nv_))=false→X1 data4)
def zl (data_:(List Cl)) (a_:Int) (b_:Int) (nv_:Int) (cmp_:(Cl × Cl × Int→Prop)) (r_:(List Cl)):Prop:=∃k6,zl.l1 a_ b_ nv_ (zl.j1 r_) k6 data_ 0
def zq.j1 (m_:Int) (cmp_:(Cl × Cl × Int→Prop)) (r_:(List Cl)) (data6:(List Cl)) (i7:Int):Prop:=(InR .i64 (m_-i7))∧∃r10:(List Cl),zl data6 (m_-i7) m_ i7 cmp_ r10∧r_=r10
def zq.l1 (m_:Int) (cmp_:(Cl × Cl × Int→Prop)) (X1:(List Cl)→Int→Prop):Nat→(List Cl)→Int→Int→Prop
 | 0,_,_,_=>False
 | k_0+1,data12,i13,j14=>(((i13 != j14))=true→((decide (j14<i13))=true→(InR .i64 (m_-i13))∧∃r23:(List Cl),zl data12 (m_-i13) m_ j14 cmp_ r23∧(InR .i64 (i13-j14))∧zq.l1 m_ cmp_ X1 k_0 r23 (i13-j14) j14)∧((decide (j14<i13))=false→(InR .i64 (m_-i13))∧(InR .i64 (m_+j14))∧(InR .i64 ((m_+j14)-i13))∧∃r30:(List Cl),zl data12 (m_-i13) ((m_+j14)-i13) i13 cmp_ r30∧(InR .i64 (j14-i13))∧zq.l1 m_ cmp_ X1 k_0 r30 i13 (j14-i13)))∧(((i13 != j14))=false→X1 data12 i13)
def zq (data_:(List Cl)) (a_:Int) (m_:Int) (b_:Int) (cmp_:(Cl × Cl × Int→Prop)) (r_:(List Cl)):Prop:=(InR .i64 (m_-a_))∧(InR .i64 (b_-m_))∧∃k15,zq.l1 m_ cmp_ (zq.j1 m_ cmp_ r_) k15 data_ (m_-a_) (b_-m_)
def za.j1 (r_:(List Cl)) (data11:(List Cl)):Prop:=r_=data11
def za.l1 (i7:Int) (X1:(List Cl)→Prop):Nat→(List Cl)→Int→Prop
 | 0,_,_=>False
 | k_0+1,data13,k14=>(InR .i64 (i7-1))∧((decide (k14<i7-1))=true→(InR .i64 (k14+1))∧(InR .i64 (k14+1))∧∃e24:Cl,at? data13 (k14+1)=some e24∧∃e26:Cl,at? data13 k14=some e26∧∃e28:Cl,at? data13 k14=some e28∧∃e30:Cl,at? (data13.set (k14:Int).toNat e24) (k14+1)=some e30∧(InR .i64 (k14+1))∧za.l1 i7 X1 k_0 ((data13.set (k14:Int).toNat e24).set (k14+1:Int).toNat e26) (k14+1))∧((decide (k14<i7-1))=false→X1 data13)
def za.j2 (data_:(List Cl)) (a_:Int) (r_:(List Cl)) (i7:Int):Prop:=∃k15,za.l1 i7 (za.j1 r_) k15 data_ a_
def za.l2 (data_:(List Cl)) (a_:Int) (cmp_:(Cl × Cl × Int→Prop)) (X2:Int→Prop):Nat→Int→Int→Prop
 | 0,_,_=>False
 | k_0+1,i33,j34=>((decide (i33<j34))=true→(InR .i64 (i33+j34))∧∃i42:Int,i42=(IntKind.wrap .i64 (shrI (IntKind.wrap .u64 (i33+j34)) 1))∧∃e45:Cl,at? data_ i42=some e45∧∃e47:Cl,at? data_ a_=some e47∧∃r49:Int,cmp_ (e45,e47,r49)∧((decide (r49<0))=true→(InR .i64 (i42+1))∧za.l2 data_ a_ cmp_ X2 k_0 (i42+1) j34)∧((decide (r49<0))=false→za.l2 data_ a_ cmp_ X2 k_0 i33 i42))∧((decide (i33<j34))=false→X2 i33)
def za.j3 (r_:(List Cl)) (data62:(List Cl)):Prop:=r_=data62
def za.l3 (i58:Int) (X3:(List Cl)→Prop):Nat→(List Cl)→Int→Prop
 | 0,_,_=>False
 | k_0+1,data64,k65=>((decide (i58<k65))=true→(InR .i64 (k65-1))∧(InR .i64 (k65-1))∧∃e74:Cl,at? data64 (k65-1)=some e74∧∃e76:Cl,at? data64 k65=some e76∧∃e78:Cl,at? data64 k65=some e78∧∃e80:Cl,at? (data64.set (k65:Int).toNat e74) (k65-1)=some e80∧(InR .i64 (k65-1))∧za.l3 i58 X3 k_0 ((data64.set (k65:Int).toNat e74).set (k65-1:Int).toNat e76) (k65-1))∧((decide (i58<k65))=false→X3 data64)
def za.j4 (data_:(List Cl)) (m_:Int) (r_:(List Cl)) (i58:Int):Prop:=∃k66,za.l3 i58 (za.j3 r_) k66 data_ m_
def za.l4 (data_:(List Cl)) (m_:Int) (cmp_:(Cl × Cl × Int→Prop)) (X4:Int→Prop):Nat→Int→Int→Prop
 | 0,_,_=>False
 | k_0+1,i83,j84=>((decide (i83<j84))=true→(InR .i64 (i83+j84))∧∃i92:Int,i92=(IntKind.wrap .i64 (shrI (IntKind.wrap .u64 (i83+j84)) 1))∧∃e95:Cl,at? data_ m_=some e95∧∃e97:Cl,at? data_ i92=some e97∧∃r99:Int,cmp_ (e95,e97,r99)∧(((!(decide (r99<0))))=true→(InR .i64 (i92+1))∧za.l4 data_ m_ cmp_ X4 k_0 (i92+1) j84)∧(((!(decide (r99<0))))=false→za.l4 data_ m_ cmp_ X4 k_0 i83 i92))∧((decide (i83<j84))=false→X4 i83)
def za.j5 (n_:(List Cl)→Int→Int→Int→(Cl × Cl × Int→Prop)→(List Cl)→Prop) (m_:Int) (b_:Int) (cmp_:(Cl × Cl × Int→Prop)) (r_:(List Cl)) (i104:Int) (start117:Int) (data131:(List Cl)):Prop:=∃b134:Bool,b134=((decide (i104<(i104+m_)-start117))&&(decide ((i104+m_)-start117<b_)))∧((b134)=true→∃r136:(List Cl),n_ data131 i104 ((i104+m_)-start117) b_ cmp_ r136∧r_=r136)∧((b134)=false→r_=data131)
def za.j6 (n_:(List Cl)→Int→Int→Int→(Cl × Cl × Int→Prop)→(List Cl)→Prop) (a_:Int) (m_:Int) (b_:Int) (cmp_:(Cl × Cl × Int→Prop)) (r_:(List Cl)) (i104:Int) (start117:Int) (data125:(List Cl)):Prop:=∃b129:Bool,b129=((decide (a_<start117))&&(decide (start117<i104)))∧((b129)=true→∃r138:(List Cl),n_ data125 a_ start117 i104 cmp_ r138∧(za.j5 (n_) m_ b_ cmp_ r_ i104 start117) r138)∧((b129)=false→(za.j5 (n_) m_ b_ cmp_ r_ i104 start117) data125)
def za.j7 (n_:(List Cl)→Int→Int→Int→(Cl × Cl × Int→Prop)→(List Cl)→Prop) (data_:(List Cl)) (a_:Int) (m_:Int) (b_:Int) (cmp_:(Cl × Cl × Int→Prop)) (r_:(List Cl)) (i104:Int) (start117:Int):Prop:=(InR .i64 ((i104+m_)-start117))∧∃b123:Bool,b123=((decide (start117<m_))&&(decide (m_<(i104+m_)-start117)))∧((b123)=true→∃r140:(List Cl),zq data_ start117 m_ ((i104+m_)-start117) cmp_ r140∧(za.j6 (n_) a_ m_ b_ cmp_ r_ i104 start117) r140)∧((b123)=false→(za.j6 (n_) a_ m_ b_ cmp_ r_ i104 start117) data_)
def za.l5 (data_:(List Cl)) (m_:Int) (cmp_:(Cl × Cl × Int→Prop)) (i104:Int) (X5:Int→Prop):Nat→Int→Int→Prop
 | 0,_,_=>False
 | k_0+1,start142,r143=>((decide (start142<r143))=true→(InR .i64 (start142+r143))∧∃i151:Int,i151=(IntKind.wrap .i64 (shrI (IntKind.wrap .u64 (start142+r143)) 1))∧(InR .i64 (((i104+m_)-1)-i151))∧∃e155:Cl,at? data_ (((i104+m_)-1)-i151)=some e155∧∃e157:Cl,at? data_ i151=some e157∧∃r159:Int,cmp_ (e155,e157,r159)∧(((!(decide (r159<0))))=true→(InR .i64 (i151+1))∧za.l5 data_ m_ cmp_ i104 X5 k_0 (i151+1) r143)∧(((!(decide (r159<0))))=false→za.l5 data_ m_ cmp_ i104 X5 k_0 start142 i151))∧((decide (start142<r143))=false→X5 start142)
def za.j8 (n_:(List Cl)→Int→Int→Int→(Cl × Cl × Int→Prop)→(List Cl)→Prop) (data_:(List Cl)) (a_:Int) (m_:Int) (b_:Int) (cmp_:(Cl × Cl × Int→Prop)) (r_:(List Cl)) (i104:Int) (start111:Int) (r112:Int):Prop:=(InR .i64 ((i104+m_)-1))∧∃k144,za.l5 data_ m_ cmp_ i104 (za.j7 (n_) data_ a_ m_ b_ cmp_ r_ i104) k144 start111 r112
def za.n:Nat→(List Cl)→Int→Int→Int→(Cl × Cl × Int→Prop)→(List Cl)→Prop
 | 0,_,_,_,_,_,_=>False
 | k_+1,data_,a_,m_,b_,cmp_,r_=>(InR .i64 (m_-a_))∧((((m_-a_)==1))=true→∃k35,za.l2 data_ a_ cmp_ (za.j2 data_ a_ r_) k35 m_ b_)∧((((m_-a_)==1))=false→(InR .i64 (b_-m_))∧((((b_-m_)==1))=true→∃k85,za.l4 data_ m_ cmp_ (za.j4 data_ m_ r_) k85 a_ m_)∧((((b_-m_)==1))=false→(InR .i64 (a_+b_))∧∃i104:Int,i104=(IntKind.wrap .i64 (shrI (IntKind.wrap .u64 (a_+b_)) 1))∧(InR .i64 (i104+m_))∧((decide (i104<m_))=true→(InR .i64 ((i104+m_)-b_))∧(za.j8 (za.n k_) data_ a_ m_ b_ cmp_ r_ i104) ((i104+m_)-b_) i104)∧((decide (i104<m_))=false→(za.j8 (za.n k_) data_ a_ m_ b_ cmp_ r_ i104) a_ m_)))
def za (data_:(List Cl)) (a_:Int) (m_:Int) (b_:Int) (cmp_:(Cl × Cl × Int→Prop)) (r_:(List Cl)):Prop:=∃k_,za.n k_ data_ a_ m_ b_ cmp_ r_
def ze.j1 (r_:(List Cl)) (data10:(List Cl)):Prop:=r_=data10
def ze.j2 (L1_:(List Cl)→Int→Prop) (nv_:Int) (cmp_:(Cl × Cl × Int→Prop)) (blockSize13:Int) (data22:(List Cl)) (a23:Int):Prop:=(InR .i64 (a23+blockSize13))∧((decide (a23+blockSize13<nv_))=true→∃r29:(List Cl),za data22 a23 (a23+blockSize13) nv_ cmp_ r29∧(InR .i64 (blockSize13*2))∧L1_ r29 (blockSize13*2))∧((decide (a23+blockSize13<nv_))=false→(InR .i64 (blockSize13*2))∧L1_ data22 (blockSize13*2))
def ze.l2 (nv_:Int) (cmp_:(Cl × Cl × Int→Prop)) (blockSize13:Int) (X2:(List Cl)→Int→Prop):Nat→(List Cl)→Int→Int→Prop
 | 0,_,_,_=>False
 | k_0+1,data33,a34,b35=>((decide (b35≤nv_))=true→(InR .i64 (a34+blockSize13))∧∃r43:(List Cl),za data33 a34 (a34+blockSize13) b35 cmp_ r43∧(InR .i64 (2*blockSize13))∧(InR .i64 (b35+(2*blockSize13)))∧ze.l2 nv_ cmp_ blockSize13 X2 k_0 r43 b35 (b35+(2*blockSize13)))∧((decide (b35≤nv_))=false→X2 data33 a34)
def ze.l1 (nv_:Int) (cmp_:(Cl × Cl × Int→Prop)) (X1:(List Cl)→Prop):Nat→(List Cl)→Int→Prop
 | 0,_,_=>False
 | k_0+1,data12,blockSize13=>((decide (blockSize13<nv_))=true→(InR .i64 (2*blockSize13))∧∃k36,ze.l2 nv_ cmp_ blockSize13 (ze.j2 (ze.l1 nv_ cmp_ X1 k_0) nv_ cmp_ blockSize13) k36 data12 0 (2*blockSize13))∧((decide (blockSize13<nv_))=false→X1 data12)
def ze.j3 (nv_:Int) (cmp_:(Cl × Cl × Int→Prop)) (r_:(List Cl)) (data4:(List Cl)) (a5:Int):Prop:=∃r8:(List Cl),zf data4 a5 nv_ cmp_ r8∧∃k14,ze.l1 nv_ cmp_ (ze.j1 r_) k14 r8 20
def ze.l3 (nv_:Int) (cmp_:(Cl × Cl × Int→Prop)) (X3:(List Cl)→Int→Prop):Nat→(List Cl)→Int→Int→Prop
 | 0,_,_,_=>False
 | k_0+1,data48,a49,b50=>((decide (b50≤nv_))=true→∃r57:(List Cl),zf data48 a49 b50 cmp_ r57∧(InR .i64 (b50+20))∧ze.l3 nv_ cmp_ X3 k_0 r57 b50 (b50+20))∧((decide (b50≤nv_))=false→X3 data48 a49)
def ze (data_:(List Cl)) (nv_:Int) (cmp_:(Cl × Cl × Int→Prop)) (r_:(List Cl)):Prop:=∃k51,ze.l3 nv_ cmp_ (ze.j3 nv_ cmp_ r_) k51 data_ 0 20
def zbe (x_:(List Cl)) (cmp_:(Cl × Cl × Int→Prop)) (r_:(List Cl)):Prop:=∃r1:(List Cl),ze x_ (x_.length:Int) cmp_ r1∧r_=r1
set_option maxRecDepth 100000
theorem zc3 {slices_:(List (List SItem))} {r_:(List SItem)} (h:zi slices_ r_):Fn Tryz.prog 119 [(Pd.rep (En.slice (En.slice En.SItem)) slices_)] (Ro En.SItem 77 r_):=by
 unfold zi at h
 refine fn_of Tryz.func119 J Tryz.ntmps119 (by rfl) (by simp) fun s0 a L=>?_
 refine wp_seq_k fun K1 hK1=>rg (sx 2 (zd (o_nil (E:=En.SItem) (N:=s0.w.heap.size) (te:=77)) J J) L fun a s _ L=>?_)
 refine en' (hK1 _ _ ?_)
 refine wp_seq_k fun K2 hK2=>rg (sx 3 (zd oI J J) L fun a s _ L=>?_)
 refine en' (hK2 _ _ ?_)
 refine wp_seq_k fun K3 hK3=>wp_seq_k fun K4 hK4=>rg (sx 9 (zb (o_t 0 J) J J) L fun a s _ L=>?_)
 refine sx 10 (t_len (o_t 9 J) Tryz.underlying25 J J) L fun a s _ L=>sx 11 (zb oI J J) L fun a s _ L=>en' (hK4 _ _ ?_)
 refine wp_block ?_
 have J6:∀(size5:Int) (a:Act) (s:St),Has N0 36 s0 a s [(0,(Pd.rep (En.slice (En.slice En.SItem)) slices_)),(3,(Pi size5))]→((zi.j2 slices_ r_) size5)→K3 a s.w:=by
  intro size5 a s L h
  unfold zi.j2 at h
  show K3 a s.w
  refine hK3 _ _ (wp_seq_k fun K7 hK7=>?_)
  obtain ⟨r8,h9,h⟩:=h
  refine rg (sx 23 (zb (o_t 3 J) J J) L fun a s _ L=>?_)
  refine zcb 24 L (zeg h9) (xs:=[.const (.slice none 0 0),.tmp 23]) (.cons o_nilv (.cons (o_t 23 J) .nil)) J J J J fun a s og10 hg_ L=>?_
  refine sx 6 (zd (o_t 24 J) J J) L fun a s _ L=>en' (hK7 _ _ ?_)
  refine wp_seq_k fun K11 hK11=>wp_seq_k fun K12 hK12=>rg (sx 25 (zb (o_t 0 J) J J) L fun a s _ L=>?_)
  refine sx 26 (t_len (o_t 25 J) Tryz.underlying25 J J) L fun a s _ L=>sx 27 (zb oI J J) L fun a s _ L=>en' (hK12 _ _ ?_)
  refine wp_block ?_
  have J15:∀(newslice13:(List SItem)) (og14:Option Nat) (a:Act) (s:St),Has N0 36 s0 a s [(6,(Pd.row En.SItem s0.w.heap.size 77 og14 newslice13))]→((zi.j1 r_) newslice13)→K11 a s.w:=by
   intro newslice13 og14 a s L h
   unfold zi.j1 at h
   show K11 a s.w
   refine hK11 _ _ (wp_seq_k fun K16 hK16=>?_)
   refine rg (sx 35 (zb (o_t 6 J) J J) L fun a s _ L=>?_)
   refine sx 2 (zd (o_t 35 J) J J) L fun a s _ L=>en' (hK16 _ _ ?_)
   subst h
   exact wp_ret (reto J L J)
  obtain ⟨k20,h⟩:=h
  refine lpg (fun k21 a s=>∃(newslice17:(List SItem)) (v19:Int) (og18:Option Nat),Has N0 36 s0 a s [(6,(Pd.row En.SItem s0.w.heap.size 77 og18 newslice17)),(25,(Pd.rep (En.slice (En.slice En.SItem)) slices_)),(26,(Pi (slices_.length:Int))),(27,(Pi v19))]∧zi.l1 slices_ (zi.j1 r_) k21 newslice17 v19) k20 ⟨r8,0,og10,L.keep (.cons (t:=6) J (fun _ _ h_=>h_) (.k 25 (.k 26 (.k 27 .nil)))),h⟩ ?_
  rintro k21 a s ⟨newslice17,v19,og18,L,h⟩ KL22 hKL22
  cases k21 with
  | zero=>exact h.elim
  | succ k21=>
  unfold zi.l1 at h
  refine wp_seq_k fun K23 hK23=>rg (sx 28 (t_lss (o_t 27 J) (o_t 26 J) J J) L fun a s _ L=>?_)
  refine en' (hK23 _ _ ?_)
  refine wp_seq_k fun K24 hK24=>cnd L J (fun hb_=>?_) (fun hb_=>?_)
  ·replace h:=h.1 hb_
   refine wp_skip ?_
   show K24 a s.w
   refine hK24 _ _ (wp_seq_k fun K25 hK25=>?_)
   refine wp_block (wp_seq_k fun K26 hK26=>?_)
   obtain ⟨e27,h28,h⟩:=h
   refine rg (sx 29 (t_idx (o_t 25 J) (o_t 27 J) h28 Tryz.underlying25 ty47 J J) L fun a s _ L=>?_)
   refine sx 30 (zo ty47 (o_t 29 J) J J) L fun a s _ L=>sx 8 (zd (o_t 30 J) J J) L fun a s _ L=>en' (hK26 _ _ ?_)
   obtain ⟨h29,h⟩:=h
   refine rg (sx 31 (zb (o_t 6 J) J J) L fun a s _ L=>?_)
   refine sx 32 (zb (o_t 8 J) J J) L fun a s _ L=>zd2 (L':=[(25,(Pd.rep (En.slice (En.slice En.SItem)) slices_)),(26,(Pi (slices_.length:Int))),(27,(Pi v19))]) 33 L (o_t 31 J) (o_t 32 J) Tryz.underlying47 ty77 h29 J J J J (.k 25 (.k 26 (.k 27 .nil))) fun a s og30 hg_ L=>?_
   refine sx 6 (zd (o_t 33 J) J J) L fun a s _ L=>en' (hK25 _ _ ?_)
   obtain ⟨h31,h⟩:=h
   refine rg (sx 34 (t_add (o_t 27 J) oI h31 J J) L fun a s _ L=>?_)
   refine sx 27 (zb (o_t 34 J) J J) L fun a s _ L=>en' ?_
   exact hKL22 k21 a s (Nat.lt_succ_self _) ⟨(newslice17++e27),(v19+1),og30,L.keep (.cons (t:=6) J (fun _ _ h_=>h_) (.k 25 (.k 26 (.k 27 .nil)))),h⟩
  ·replace h:=h.2 hb_
   refine wp_exit ?_
   exact J15 newslice17 og18 a s (L.keep (.cons (t:=6) J (fun _ _ h_=>h_) .nil)) h
 obtain ⟨k34,h⟩:=h
 refine lpg (fun k35 a s=>∃(size32:Int) (v33:Int),Has N0 36 s0 a s [(0,(Pd.rep (En.slice (En.slice En.SItem)) slices_)),(3,(Pi size32)),(9,(Pd.rep (En.slice (En.slice En.SItem)) slices_)),(10,(Pi (slices_.length:Int))),(11,(Pi v33))]∧zi.l2 slices_ (zi.j2 slices_ r_) k35 size32 v33) k34 ⟨0,0,L.keep (.k 0 (.k 3 (.k 9 (.k 10 (.k 11 .nil))))),h⟩ ?_
 rintro k35 a s ⟨size32,v33,L,h⟩ KL36 hKL36
 cases k35 with
 | zero=>exact h.elim
 | succ k35=>
 unfold zi.l2 at h
 refine wp_seq_k fun K37 hK37=>rg (sx 12 (t_lss (o_t 11 J) (o_t 10 J) J J) L fun a s _ L=>?_)
 refine en' (hK37 _ _ ?_)
 refine wp_seq_k fun K38 hK38=>cnd L J (fun hb_=>?_) (fun hb_=>?_)
 ·replace h:=h.1 hb_
  refine wp_skip ?_
  show K38 a s.w
  refine hK38 _ _ (wp_seq_k fun K39 hK39=>?_)
  refine wp_block (wp_seq_k fun K40 hK40=>?_)
  obtain ⟨e41,h42,h⟩:=h
  refine rg (sx 13 (t_idx (o_t 9 J) (o_t 11 J) h42 Tryz.underlying25 ty47 J J) L fun a s _ L=>?_)
  refine sx 14 (zo ty47 (o_t 13 J) J J) L fun a s _ L=>sx 5 (zd (o_t 14 J) J J) L fun a s _ L=>en' (hK40 _ _ ?_)
  refine wp_seq_k fun K43 hK43=>?_
  obtain ⟨h44,h⟩:=h
  refine rg (sx 15 (zb (o_t 3 J) J J) L fun a s _ L=>?_)
  refine sx 16 (zb (o_t 5 J) J J) L fun a s _ L=>sx 17 (t_len (o_t 16 J) Tryz.underlying47 J J) L fun a s _ L=>sx 18 (t_add (o_t 15 J) (o_t 17 J) h44 J J) L fun a s _ L=>sx 3 (zd (o_t 18 J) J J) L fun a s _ L=>en' (hK43 _ _ ?_)
  refine wp_seq_k fun K45 hK45=>rg (sx 19 (zb (o_t 3 J) J J) L fun a s _ L=>?_)
  refine sx 20 (t_lss (o_t 19 J) oI J J) L fun a s _ L=>en' (hK45 _ _ ?_)
  refine cnd L J (fun hb_=>?_) (fun hb_=>?_)
  ·replace h:=h.1 hb_
   exact h.elim
  ·replace h:=h.2 hb_
   refine wp_skip ?_
   show K39 a s.w
   refine hK39 _ _ ?_
   obtain ⟨h46,h⟩:=h
   refine rg (sx 22 (t_add (o_t 11 J) oI h46 J J) L fun a s _ L=>?_)
   refine sx 11 (zb (o_t 22 J) J J) L fun a s _ L=>en' ?_
   exact hKL36 k35 a s (Nat.lt_succ_self _) ⟨(size32+(e41.length:Int)),(v33+1),L.keep (.k 0 (.k 3 (.k 9 (.k 10 (.k 11 .nil))))),h⟩
 ·replace h:=h.2 hb_
  refine wp_exit ?_
  exact J6 size32 a s (L.keep (.k 0 (.k 3 .nil))) h
theorem zc4 {s_:(List SItem)} {r_:(List SItem)} (h:zby s_ r_):Fn Tryz.prog 143 [(Pd.rep (En.slice En.SItem) s_)] (Ro En.SItem 77 r_):=by
 unfold zby at h
 refine fn_of Tryz.func143 J Tryz.ntmps143 (by rfl) (by simp) fun s0 a L=>?_
 refine wp_seq_k fun K1 hK1=>rg (sx 2 (zd (o_nil (E:=En.SItem) (N:=s0.w.heap.size) (te:=77)) J J) L fun a s _ L=>?_)
 refine en' (hK1 _ _ ?_)
 refine wp_seq_k fun K2 hK2=>wp_seq_k fun K3 hK3=>rg (sx 3 (zb (o_t 0 J) J J) L fun a s _ L=>?_)
 refine sx 4 (t_isnil (o_t 3 J) Tryz.underlying47 J J) L fun a s _ L=>?_
 obtain ⟨b4,h5,L⟩:=L.nilq 4 rfl
 replace h:=h b4 h5
 refine en' (hK3 _ _ ?_)
 refine cnd L J (fun hb_=>?_) (fun hb_=>?_)
 ·replace h:=h.1 hb_
  refine wp_seq_k fun K6 hK6=>rg (sx 2 (zd (o_nil (E:=En.SItem) (N:=s0.w.heap.size) (te:=77)) J J) L fun a s _ L=>?_)
  refine en' (hK6 _ _ ?_)
  subst h
  exact wp_ret (reto J L J)
 ·replace h:=h.2 hb_
  refine wp_skip ?_
  show K2 a s.w
  refine hK2 _ _ (wp_seq_k fun K7 hK7=>?_)
  obtain ⟨h9,h⟩:=h
  refine rg (st_new En.SItem 5 L Tryz.underlying47 ty77 J J J J fun a s g8 hg_ L=>?_)
  refine sx 6 (zb (o_t 0 J) J J) L fun a s _ L=>zd2 (L':=[(2,(Pd.row En.SItem s0.w.heap.size 77 none ([]:(List SItem))))]) 7 L (o_t 5 J) (o_t 6 J) Tryz.underlying47 ty77 h9 J J J J (.cons (t:=2) J no_own .nil) fun a s og10 hg_ L=>?_
  refine sx 2 (zd (o_t 7 J) J J) L fun a s _ L=>en' (hK7 _ _ ?_)
  subst h
  exact wp_ret (reto J L J)
theorem zdq {s_:(List (List SItem))} {f_:((List SItem) × Bool→Prop)} {r_:Int} (h:zm s_ f_ r_):Fn Tryz.prog 102 [(Pd.rep (En.slice (En.slice En.SItem)) s_),(Pd.rep EnF88 f_)] (Rq (Pi r_)):=by
 unfold zm at h
 refine fn_of Tryz.func102 J Tryz.ntmps102 (by rfl) (by simp) fun s0 a L=>?_
 refine wp_seq_k fun K1 hK1=>rg (sx 4 (zd oI J J) L fun a s _ L=>?_)
 refine en' (hK1 _ _ ?_)
 refine wp_seq_k fun K2 hK2=>wp_seq_k fun K3 hK3=>rg (sx 6 (zb (o_t 0 J) J J) L fun a s _ L=>?_)
 refine sx 7 (t_len (o_t 6 J) Tryz.underlying25 J J) L fun a s _ L=>sx 8 (zb oI J J) L fun a s _ L=>en' (hK3 _ _ ?_)
 refine wp_block ?_
 have J4:∀(a:Act) (s:St),Has N0 19 s0 a s []→((zm.j1 r_))→K2 a s.w:=by
  intro a s L h
  unfold zm.j1 at h
  show K2 a s.w
  refine hK2 _ _ (wp_seq_k fun K5 hK5=>?_)
  refine rg (sx 4 (zd oI J J) L fun a s _ L=>?_)
  refine en' (hK5 _ _ ?_)
  subst h
  exact wp_ret (retq J L J)
 obtain ⟨k7,h⟩:=h
 refine lpg (fun k8 a s=>∃(v6:Int),Has N0 19 s0 a s [(0,(Pd.rep (En.slice (En.slice En.SItem)) s_)),(1,(Pd.rep EnF88 f_)),(7,(Pi (s_.length:Int))),(8,(Pi v6))]∧zm.l1 s_ f_ r_ (zm.j1 r_) k8 v6) k7 ⟨0,L.keep (.k 0 (.k 1 (.k 7 (.k 8 .nil)))),h⟩ ?_
 rintro k8 a s ⟨v6,L,h⟩ KL9 hKL9
 cases k8 with
 | zero=>exact h.elim
 | succ k8=>
 unfold zm.l1 at h
 refine wp_seq_k fun K10 hK10=>rg (sx 9 (t_lss (o_t 8 J) (o_t 7 J) J J) L fun a s _ L=>?_)
 refine en' (hK10 _ _ ?_)
 refine wp_seq_k fun K11 hK11=>cnd L J (fun hb_=>?_) (fun hb_=>?_)
 ·replace h:=h.1 hb_
  refine wp_skip ?_
  show K11 a s.w
  refine hK11 _ _ (wp_seq_k fun K12 hK12=>?_)
  refine wp_block (wp_seq_k fun K13 hK13=>?_)
  refine rg (sx 10 (zb (o_t 8 J) J J) L fun a s _ L=>?_)
  refine sx 5 (zd (o_t 10 J) J J) L fun a s _ L=>en' (hK13 _ _ ?_)
  refine wp_seq_k fun K14 hK14=>?_
  obtain ⟨e15,h16,r17,h18,h⟩:=h
  refine rg (sx 11 (zb (o_t 1 J) J J) L fun a s _ L=>?_)
  refine sx 12 (zb (o_t 0 J) J J) L fun a s _ L=>sx 13 (zb (o_t 5 J) J J) L fun a s _ L=>sx 14 (t_idx (o_t 12 J) (o_t 13 J) h16 Tryz.underlying25 ty47 J J) L fun a s _ L=>sx 15 (zo ty47 (o_t 14 J) J J) L fun a s _ L=>sx 16 (t_callf (q:=(e15,r17)) (o_t 11 J) h18 (xs:=[.tmp 15]) (.cons (o_t 15 J) .nil) (fun _ _ _ h_=>h_) J J) L fun a s _ L=>en' (hK14 _ _ ?_)
  refine cnd L J (fun hb_=>?_) (fun hb_=>?_)
  ·replace h:=h.1 hb_
   refine wp_seq_k fun K19 hK19=>rg (sx 17 (zb (o_t 5 J) J J) L fun a s _ L=>?_)
   refine sx 4 (zd (o_t 17 J) J J) L fun a s _ L=>en' (hK19 _ _ ?_)
   subst h
   exact wp_ret (retq J L J)
  ·replace h:=h.2 hb_
   refine wp_skip ?_
   show K12 a s.w
   refine hK12 _ _ ?_
   obtain ⟨h20,h⟩:=h
   refine rg (sx 18 (t_add (o_t 8 J) oI h20 J J) L fun a s _ L=>?_)
   refine sx 8 (zb (o_t 18 J) J J) L fun a s _ L=>en' ?_
   exact hKL9 k8 a s (Nat.lt_succ_self _) ⟨(v6+1),L.keep (.k 0 (.k 1 (.k 7 (.k 8 .nil)))),h⟩
 ·replace h:=h.2 hb_
  refine wp_exit ?_
  exact J4 a s (L.keep .nil) h
theorem zdj {s_:(List (List SItem))} {f_:((List SItem) × Bool→Prop)} {r_:Bool} (h:zbi s_ f_ r_):Fn Tryz.prog 61 [(Pd.rep (En.slice (En.slice En.SItem)) s_),(Pd.rep EnF88 f_)] (Rq (Pd.rep En.bool r_)):=by
 unfold zbi at h
 refine fn_of Tryz.func61 J Tryz.ntmps61 (by rfl) (by simp) fun s0 a L=>?_
 refine wp_seq_k fun K1 hK1=>rg (sx 4 (zd o_b J J) L fun a s _ L=>?_)
 refine en' (hK1 _ _ ?_)
 refine wp_seq_k fun K2 hK2=>?_
 obtain ⟨r3,h4,h⟩:=h
 refine rg (sx 5 (zb (o_t 0 J) J J) L fun a s _ L=>?_)
 refine sx 6 (zb (o_t 1 J) J J) L fun a s _ L=>sx 7 (zu (zdq h4) (xs:=[.tmp 5,.tmp 6]) (.cons (o_t 5 J) (.cons (o_t 6 J) .nil)) J J) L fun a s _ L=>sx 8 (t_geq (o_t 7 J) oI J J) L fun a s _ L=>sx 4 (zd (o_t 8 J) J J) L fun a s _ L=>en' (hK2 _ _ ?_)
 subst h
 exact wp_ret (retq J L J)
theorem zcn (v0:Value) {data_:(List Cl)} {a_:Int} {b_:Int} {cmp_:(Cl × Cl × Int→Prop)} {r_:(List Cl)} (h:zf data_ a_ b_ cmp_ r_):Fm Tryz.prog 185 (fun b=>v0.ownBlock=some b) [(Pd.prow En.cls 51 v0 data_),(Pi a_),(Pi b_),(Pd.rep EnF211 cmp_)] (fun _ s' _=>(Pd.prow En.cls 51 v0 r_).p s' v0):=by
 unfold zf at h
 refine fm_of Tryz.func185 J Tryz.ntmps185 (by rfl) (by simp) fun s0 a L=>?_
 refine wp_seq_k fun K1 hK1=>?_
 obtain ⟨h2,h⟩:=h
 refine rg (sx 10 (zb (o_t 1 J) J J) L fun a s _ L=>?_)
 refine sx 11 (t_add (o_t 10 J) oI h2 J J) L fun a s _ L=>sx 8 (zd (o_t 11 J) J J) L fun a s _ L=>en' (hK1 _ _ ?_)
 refine wp_block ?_
 have J4:∀(data3:(List Cl)) (a:Act) (s:St),Has (fun b=>v0.ownBlock=some b) 53 s0 a s [(0,(Pd.prow En.cls 51 v0 data3))]→((zf.j1 r_) data3)→(bodyPost Tryz.prog Tryz.f185 (Pst (fun b=>v0.ownBlock=some b) (fun _ s' _=>(Pd.prow En.cls 51 v0 r_).p s' v0) s0) .normal) a s.w:=by
  intro data3 a s L h
  unfold zf.j1 at h
  subst h
  exact retm J L (c:=0) J
 obtain ⟨k7,h⟩:=h
 refine lpg (fun k8 a s=>∃(data5:(List Cl)) (i6:Int),Has (fun b=>v0.ownBlock=some b) 53 s0 a s [(0,(Pd.prow En.cls 51 v0 data5)),(1,(Pi a_)),(2,(Pi b_)),(3,(Pd.rep EnF211 cmp_)),(8,(Pi i6))]∧zf.l1 a_ b_ cmp_ (zf.j1 r_) k8 data5 i6) k7 ⟨data_,(a_+1),L.keep (.cons (t:=0) J (fun _ _ h_=>h_) (.k 1 (.k 2 (.k 3 (.k 8 .nil))))),h⟩ ?_
 rintro k8 a s ⟨data5,i6,L,h⟩ KL9 hKL9
 cases k8 with
 | zero=>exact h.elim
 | succ k8=>
 unfold zf.l1 at h
 refine wp_seq_k fun K10 hK10=>wp_seq_k fun K11 hK11=>rg (sx 12 (zb (o_t 8 J) J J) L fun a s _ L=>?_)
 refine sx 13 (zb (o_t 2 J) J J) L fun a s _ L=>sx 14 (t_lss (o_t 12 J) (o_t 13 J) J J) L fun a s _ L=>en' (hK11 _ _ ?_)
 refine cnd L J (fun hb_=>?_) (fun hb_=>?_)
 ·replace h:=h.1 hb_
  refine wp_skip ?_
  show K10 a s.w
  refine hK10 _ _ (wp_seq_k fun K12 hK12=>?_)
  refine wp_block (wp_seq_k fun K13 hK13=>?_)
  refine rg (sx 17 (zb (o_t 8 J) J J) L fun a s _ L=>?_)
  refine sx 9 (zd (o_t 17 J) J J) L fun a s _ L=>en' (hK13 _ _ ?_)
  refine wp_block ?_
  have J15:∀(data14:(List Cl)) (a:Act) (s:St),Has (fun b=>v0.ownBlock=some b) 53 s0 a s [(0,(Pd.prow En.cls 51 v0 data14)),(1,(Pi a_)),(2,(Pi b_)),(3,(Pd.rep EnF211 cmp_)),(8,(Pi i6))]→((zf.j2 (zf.l1 a_ b_ cmp_ (zf.j1 r_) k8) i6) data14)→K12 a s.w:=by
   intro data14 a s L h
   unfold zf.j2 at h
   show K12 a s.w
   refine hK12 _ _ ?_
   obtain ⟨h16,h⟩:=h
   refine rg (sx 15 (zb (o_t 8 J) J J) L fun a s _ L=>?_)
   refine sx 16 (t_add (o_t 15 J) oI h16 J J) L fun a s _ L=>sx 8 (zd (o_t 16 J) J J) L fun a s _ L=>en' ?_
   exact hKL9 k8 a s (Nat.lt_succ_self _) ⟨data14,(i6+1),L.keep (.cons (t:=0) J (fun _ _ h_=>h_) (.k 1 (.k 2 (.k 3 (.k 8 .nil))))),h⟩
  obtain ⟨k19,h⟩:=h
  refine lpg (fun k20 a s=>∃(data17:(List Cl)) (j18:Int),Has (fun b=>v0.ownBlock=some b) 53 s0 a s [(0,(Pd.prow En.cls 51 v0 data17)),(1,(Pi a_)),(2,(Pi b_)),(3,(Pd.rep EnF211 cmp_)),(8,(Pi i6)),(9,(Pi j18))]∧zf.l2 a_ cmp_ (zf.j2 (zf.l1 a_ b_ cmp_ (zf.j1 r_) k8) i6) k20 data17 j18) k19 ⟨data5,i6,L.keep (.cons (t:=0) J (fun _ _ h_=>h_) (.k 1 (.k 2 (.k 3 (.k 8 (.k 9 .nil)))))),h⟩ ?_
  rintro k20 a s ⟨data17,j18,L,h⟩ KL21 hKL21
  cases k20 with
  | zero=>exact h.elim
  | succ k20=>
  unfold zf.l2 at h
  refine wp_seq_k fun K22 hK22=>wp_seq_k fun K23 hK23=>?_
  obtain ⟨e24,h25,h26,e27,h28,r29,h30,h⟩:=h
  refine rda zbk 17 [(Pi j18),(Pi a_),(Pd.rep En.bool (decide (a_<j18))),(Pd.rep En.bool (decide (a_<j18))),(Pd.when ((decide (a_<j18))=true) (Pd.rep EnF211 cmp_)),(Pd.when ((decide (a_<j18))=true) (Pd.prow En.cls 51 v0 data17)),(Pd.when ((decide (a_<j18))=true) (Pi j18)),(Pd.when ((decide (a_<j18))=true) (Pd.optr En.cls 0 v0.ownBlock ((j18:Int).toNat*En.cls.sz) e24)),(Pd.when ((decide (a_<j18))=true) (Pd.rep En.cls e24)),(Pd.when ((decide (a_<j18))=true) (Pd.prow En.cls 51 v0 data17)),(Pd.when ((decide (a_<j18))=true) (Pi j18)),(Pd.when ((decide (a_<j18))=true) (Pi (j18-1))),(Pd.when ((decide (a_<j18))=true) (Pd.optr En.cls 0 v0.ownBlock ((j18-1:Int).toNat*En.cls.sz) e27)),(Pd.when ((decide (a_<j18))=true) (Pd.rep En.cls e27)),(Pd.when ((decide (a_<j18))=true) (Pi r29)),(Pd.when ((decide (a_<j18))=true) (Pd.rep En.bool (decide (r29<0)))),(Pd.rep En.bool ((decide (a_<j18))&&(decide (r29<0))))] L (by kernel_rfl) J J ?_ ?_
  ·refine AllT.cons (zb (o_t 9 J) J J) ?_
   refine AllT.cons (zb (o_t 1 J) J J) (AllT.cons (t_gtr (o_t 18 J) (o_t 19 J) J J) ?_)
   refine AllT.cons (zb (o_t 20 J) J J) (AllT.cons (t_g1 J J J (fun hc_=>zb (o_t 3 J) J J)) ?_)
   refine AllT.cons (t_g1 J J J (fun hc_=>zb (o_t 0 J) J J)) (AllT.cons (t_g1 J J J (fun hc_=>zb (o_t 9 J) J J)) ?_)
   refine AllT.cons (t_g1 J J J (fun hc_=>zbx (o_p (o_w hc_ 23 J)) (o_w hc_ 24 J) (h25 hc_) Tryz.underlying36 ty51 J J)) (AllT.cons (t_g1 J J J (fun hc_=>zt ty51 (o_w hc_ 25 J) J J)) ?_)
   refine AllT.cons (t_g1 J J J (fun hc_=>zb (o_t 0 J) J J)) (AllT.cons (t_g1 J J J (fun hc_=>zb (o_t 9 J) J J)) ?_)
   refine AllT.cons (t_g1 J J J (fun hc_=>t_sub (o_w hc_ 28 J) oI (h26 hc_) J J)) (AllT.cons (t_g1 J J J (fun hc_=>zbx (o_p (o_w hc_ 27 J)) (o_w hc_ 29 J) (h28 hc_) Tryz.underlying36 ty51 J J)) ?_)
   refine AllT.cons (t_g1 J J J (fun hc_=>zt ty51 (o_w hc_ 30 J) J J)) (AllT.cons (t_g1 J J J (fun hc_=>t_callf (q:=(e24,e27,r29)) (o_w hc_ 22 J) (h30 hc_) (xs:=[.tmp 26,.tmp 31]) (.cons (o_w hc_ 26 J) (.cons (o_w hc_ 31 J) .nil)) (fun _ _ _ h_=>h_) J J)) ?_)
   refine AllT.cons (t_g1 J J J (fun hc_=>t_lss (o_w hc_ 32 J) oI J J)) (AllT.cons (t_and (o_t 21 J) (fun hc2_=>(o_w hc2_ 33 J)) J J) ?_)
   exact AllT.nil
  intro a s _ L
  refine en' (hK23 _ _ ?_)
  refine cnd L J (fun hb_=>?_) (fun hb_=>?_)
  ·replace h:=h.1 hb_
   refine wp_skip ?_
   show K22 a s.w
   refine hK22 _ _ (wp_seq_k fun K31 hK31=>?_)
   refine wp_block ?_
   obtain ⟨h32,h33,e34,h35,e36,h37,e38,h39,e40,h41,h⟩:=h
   refine rdf 18 zbk L (by kernel_rfl) fun s _ L=>?_
   refine zd8 2 39 L (by rfl) (by kernel_rfl) (by kernel_rfl) (by kernel_rfl) (fun _ _ _ _ h=>h) (q:=(Pd.prow En.cls 51 v0 data17)) (y_move (o_t 0 J) J J) J J fun a L=>?_
   refine zd8 3 40 L (by rfl) (by kernel_rfl) (by kernel_rfl) (by kernel_rfl) (fun _ _ _ _ h=>h) (q:=(Pi j18)) (y_move (o_t 9 J) J J) J J fun a L=>?_
   refine zd8 4 41 L (by rfl) (by kernel_rfl) (by kernel_rfl) (by kernel_rfl) (fun _ _ _ _ h=>h) (q:=(Pi (j18-1))) (y_sub (o_t 40 J) oI h32 J J) J J fun a L=>?_
   refine fl_go 15 [(Pd.prow En.cls 51 v0 data17),(Pi j18),(Pd.prow En.cls 51 v0 data17),(Pi j18),(Pi (j18-1)),(Pd.prow En.cls 51 v0 data17),(Pi j18),(Pi (j18-1)),(Pd.optr En.cls 0 v0.ownBlock ((j18-1:Int).toNat*En.cls.sz) e34),(Pd.rep En.cls e34),(Pd.prow En.cls 51 v0 data17),(Pi j18),(Pd.optr En.cls 0 v0.ownBlock ((j18:Int).toNat*En.cls.sz) e36),(Pd.rep En.cls e36),(Pd.optr En.cls 0 v0.ownBlock ((j18:Int).toNat*En.cls.sz) e38)] [2,3,4] L (by kernel_rfl) (by kernel_rfl) (by kernel_rfl) (.cons (i:=2) J J J J (.cons (i:=3) J J J J (.cons (i:=4) J J J J .nil))) J J ?_ ?_
   ·refine AllF.cons (zb (o_t 0 J) J J) ?_
    refine AllF.cons (zb (o_t 9 J) J J) (AllF.skip J ?_)
    refine AllF.skip J (AllF.skip J ?_)
    refine AllF.cons (zb (o_t 0 J) J J) (AllF.cons (zb (o_t 9 J) J J) ?_)
    refine AllF.cons (t_sub (o_t 43 J) oI h33 J J) (AllF.cons (zbx (o_p (o_t 42 J)) (o_t 44 J) h35 Tryz.underlying36 ty51 J J) ?_)
    refine AllF.cons (zt ty51 (o_t 45 J) J J) (AllF.cons (zb (o_t 0 J) J J) ?_)
    refine AllF.cons (zb (o_t 9 J) J J) (AllF.cons (zbx (o_p (o_t 47 J)) (o_t 48 J) h37 Tryz.underlying36 ty51 J J) ?_)
    refine AllF.cons (zt ty51 (o_t 49 J) J J) (AllF.cons (zbx (o_p (o_t 37 J)) (o_t 38 J) h39 Tryz.underlying36 ty51 J J) ?_)
    exact AllF.nil
   intro a s _ L
   refine st_storp (L':=[(0,(Pd.prow En.cls 51 v0 (data17.set (j18:Int).toNat e34))),(1,(Pi a_)),(2,(Pi b_)),(3,(Pd.rep EnF211 cmp_)),(8,(Pi i6)),(9,(Pi j18)),(39,(Pd.prow En.cls 51 v0 (data17.set (j18:Int).toNat e34))),(41,(Pi (j18-1))),(50,(Pd.rep En.cls e36))]) (off:=0) 0 (fun b h=>h) L J h39 (o_t 51 J) (o_t 46 J) (zy _ _ _) ty51 J J J (.turn (t:=0) J (.k 1 (.k 2 (.k 3 (.k 8 (.k 9 (.turn (t:=39) J (.k 41 (.k 50 .nil))))))))) fun s L=>?_
   refine sx 52 (zbx (o_p (o_t 39 J)) (o_t 41 J) h41 Tryz.underlying36 ty51 J J) L fun a s _ L=>st_storp (L':=[(0,(Pd.prow En.cls 51 v0 ((data17.set (j18:Int).toNat e34).set (j18-1:Int).toNat e36))),(1,(Pi a_)),(2,(Pi b_)),(3,(Pd.rep EnF211 cmp_)),(8,(Pi i6)),(9,(Pi j18))]) (off:=0) 0 (fun b h=>h) L J h41 (o_t 52 J) (o_t 50 J) (zy _ _ _) ty51 J J J (.turn (t:=0) J (.k 1 (.k 2 (.k 3 (.k 8 (.k 9 .nil)))))) fun s L=>?_
   refine en' (hK31 _ _ ?_)
   obtain ⟨h42,h⟩:=h
   refine rg (sx 35 (zb (o_t 9 J) J J) L fun a s _ L=>?_)
   refine sx 36 (t_sub (o_t 35 J) oI h42 J J) L fun a s _ L=>sx 9 (zd (o_t 36 J) J J) L fun a s _ L=>en' ?_
   exact hKL21 k20 a s (Nat.lt_succ_self _) ⟨((data17.set (j18:Int).toNat e34).set (j18-1:Int).toNat e36),(j18-1),L.keep (.cons (t:=0) J (fun _ _ h_=>h_) (.k 1 (.k 2 (.k 3 (.k 8 (.k 9 .nil)))))),h⟩
  ·replace h:=h.2 hb_
   refine wp_exit ?_
   exact J15 data17 a s (L.keep (.cons (t:=0) J (fun _ _ h_=>h_) (.k 1 (.k 2 (.k 3 (.k 8 .nil)))))) h
 ·replace h:=h.2 hb_
  refine wp_exit ?_
  exact J4 data5 a s (L.keep (.cons (t:=0) J (fun _ _ h_=>h_) .nil)) h
theorem zb4 (v0:Value) {data_:(List Cl)} {a_:Int} {b_:Int} {nv_:Int} {cmp_:(Cl × Cl × Int→Prop)} {r_:(List Cl)} (h:zl data_ a_ b_ nv_ cmp_ r_):Fm Tryz.prog 190 (fun b=>v0.ownBlock=some b) [(Pd.prow En.cls 51 v0 data_),(Pi a_),(Pi b_),(Pi nv_),(Pd.rep EnF211 cmp_)] (fun _ s' _=>(Pd.prow En.cls 51 v0 r_).p s' v0):=by
 unfold zl at h
 refine fm_of Tryz.func190 J Tryz.ntmps190 (by rfl) (by simp) fun s0 a L=>?_
 refine wp_seq_k fun K1 hK1=>rg (sx 10 (zd oI J J) L fun a s _ L=>?_)
 refine en' (hK1 _ _ ?_)
 refine wp_block ?_
 have J3:∀(data2:(List Cl)) (a:Act) (s:St),Has (fun b=>v0.ownBlock=some b) 38 s0 a s [(0,(Pd.prow En.cls 51 v0 data2))]→((zl.j1 r_) data2)→(bodyPost Tryz.prog Tryz.f190 (Pst (fun b=>v0.ownBlock=some b) (fun _ s' _=>(Pd.prow En.cls 51 v0 r_).p s' v0) s0) .normal) a s.w:=by
  intro data2 a s L h
  unfold zl.j1 at h
  subst h
  exact retm J L (c:=0) J
 obtain ⟨k6,h⟩:=h
 refine lpg (fun k7 a s=>∃(data4:(List Cl)) (i5:Int),Has (fun b=>v0.ownBlock=some b) 38 s0 a s [(0,(Pd.prow En.cls 51 v0 data4)),(1,(Pi a_)),(2,(Pi b_)),(3,(Pi nv_)),(10,(Pi i5))]∧zl.l1 a_ b_ nv_ (zl.j1 r_) k7 data4 i5) k6 ⟨data_,0,L.keep (.cons (t:=0) J (fun _ _ h_=>h_) (.k 1 (.k 2 (.k 3 (.k 10 .nil))))),h⟩ ?_
 rintro k7 a s ⟨data4,i5,L,h⟩ KL8 hKL8
 cases k7 with
 | zero=>exact h.elim
 | succ k7=>
 unfold zl.l1 at h
 refine wp_seq_k fun K9 hK9=>wp_seq_k fun K10 hK10=>rg (sx 11 (zb (o_t 10 J) J J) L fun a s _ L=>?_)
 refine sx 12 (zb (o_t 3 J) J J) L fun a s _ L=>sx 13 (t_lss (o_t 11 J) (o_t 12 J) J J) L fun a s _ L=>en' (hK10 _ _ ?_)
 refine cnd L J (fun hb_=>?_) (fun hb_=>?_)
 ·replace h:=h.1 hb_
  refine wp_skip ?_
  show K9 a s.w
  refine hK9 _ _ (wp_seq_k fun K11 hK11=>?_)
  refine wp_block ?_
  obtain ⟨h12,h13,h14,e15,h16,h17,e18,h19,e20,h21,e22,h23,h⟩:=h
  refine rdf 24 zbk L (by kernel_rfl) fun s _ L=>?_
  refine zd8 4 20 L (by rfl) (by kernel_rfl) (by kernel_rfl) (by kernel_rfl) (fun _ _ _ _ h=>h) (q:=(Pd.prow En.cls 51 v0 data4)) (y_move (o_t 0 J) J J) J J fun a L=>?_
  refine zd8 5 21 L (by rfl) (by kernel_rfl) (by kernel_rfl) (by kernel_rfl) (fun _ _ _ _ h=>h) (q:=(Pi b_)) (y_move (o_t 2 J) J J) J J fun a L=>?_
  refine zd8 6 22 L (by rfl) (by kernel_rfl) (by kernel_rfl) (by kernel_rfl) (fun _ _ _ _ h=>h) (q:=(Pi i5)) (y_move (o_t 10 J) J J) J J fun a L=>?_
  refine zd8 7 23 L (by rfl) (by kernel_rfl) (by kernel_rfl) (by kernel_rfl) (fun _ _ _ _ h=>h) (q:=(Pi (b_+i5))) (y_add (o_t 21 J) (o_t 22 J) h13 J J) J J fun a L=>?_
  refine fl_go 21 [(Pd.prow En.cls 51 v0 data4),(Pi a_),(Pi i5),(Pi (a_+i5)),(Pd.prow En.cls 51 v0 data4),(Pi b_),(Pi i5),(Pi (b_+i5)),(Pd.prow En.cls 51 v0 data4),(Pi b_),(Pi i5),(Pi (b_+i5)),(Pd.optr En.cls 0 v0.ownBlock ((b_+i5:Int).toNat*En.cls.sz) e15),(Pd.rep En.cls e15),(Pd.prow En.cls 51 v0 data4),(Pi a_),(Pi i5),(Pi (a_+i5)),(Pd.optr En.cls 0 v0.ownBlock ((a_+i5:Int).toNat*En.cls.sz) e18),(Pd.rep En.cls e18),(Pd.optr En.cls 0 v0.ownBlock ((a_+i5:Int).toNat*En.cls.sz) e20)] [4,5,6,7] L (by kernel_rfl) (by kernel_rfl) (by kernel_rfl) (.cons (i:=4) J J J J (.cons (i:=5) J J J J (.cons (i:=6) J J J J (.cons (i:=7) J J J J .nil)))) J J ?_ ?_
  ·refine AllF.cons (zb (o_t 0 J) J J) ?_
   refine AllF.cons (zb (o_t 1 J) J J) (AllF.cons (zb (o_t 10 J) J J) ?_)
   refine AllF.cons (t_add (o_t 17 J) (o_t 18 J) h12 J J) (AllF.skip J ?_)
   refine AllF.skip J (AllF.skip J ?_)
   refine AllF.skip J (AllF.cons (zb (o_t 0 J) J J) ?_)
   refine AllF.cons (zb (o_t 2 J) J J) (AllF.cons (zb (o_t 10 J) J J) ?_)
   refine AllF.cons (t_add (o_t 25 J) (o_t 26 J) h14 J J) (AllF.cons (zbx (o_p (o_t 24 J)) (o_t 27 J) h16 Tryz.underlying36 ty51 J J) ?_)
   refine AllF.cons (zt ty51 (o_t 28 J) J J) (AllF.cons (zb (o_t 0 J) J J) ?_)
   refine AllF.cons (zb (o_t 1 J) J J) (AllF.cons (zb (o_t 10 J) J J) ?_)
   refine AllF.cons (t_add (o_t 31 J) (o_t 32 J) h17 J J) (AllF.cons (zbx (o_p (o_t 30 J)) (o_t 33 J) h19 Tryz.underlying36 ty51 J J) ?_)
   refine AllF.cons (zt ty51 (o_t 34 J) J J) (AllF.cons (zbx (o_p (o_t 16 J)) (o_t 19 J) h21 Tryz.underlying36 ty51 J J) ?_)
   exact AllF.nil
  intro a s _ L
  refine st_storp (L':=[(0,(Pd.prow En.cls 51 v0 (data4.set (a_+i5:Int).toNat e15))),(1,(Pi a_)),(2,(Pi b_)),(3,(Pi nv_)),(10,(Pi i5)),(20,(Pd.prow En.cls 51 v0 (data4.set (a_+i5:Int).toNat e15))),(23,(Pi (b_+i5))),(35,(Pd.rep En.cls e18))]) (off:=0) 0 (fun b h=>h) L J h21 (o_t 36 J) (o_t 29 J) (zy _ _ _) ty51 J J J (.turn (t:=0) J (.k 1 (.k 2 (.k 3 (.k 10 (.turn (t:=20) J (.k 23 (.k 35 .nil)))))))) fun s L=>?_
  refine sx 37 (zbx (o_p (o_t 20 J)) (o_t 23 J) h23 Tryz.underlying36 ty51 J J) L fun a s _ L=>st_storp (L':=[(0,(Pd.prow En.cls 51 v0 ((data4.set (a_+i5:Int).toNat e15).set (b_+i5:Int).toNat e18))),(1,(Pi a_)),(2,(Pi b_)),(3,(Pi nv_)),(10,(Pi i5))]) (off:=0) 0 (fun b h=>h) L J h23 (o_t 37 J) (o_t 35 J) (zy _ _ _) ty51 J J J (.turn (t:=0) J (.k 1 (.k 2 (.k 3 (.k 10 .nil))))) fun s L=>?_
  refine en' (hK11 _ _ ?_)
  obtain ⟨h24,h⟩:=h
  refine rg (sx 14 (zb (o_t 10 J) J J) L fun a s _ L=>?_)
  refine sx 15 (t_add (o_t 14 J) oI h24 J J) L fun a s _ L=>sx 10 (zd (o_t 15 J) J J) L fun a s _ L=>en' ?_
  exact hKL8 k7 a s (Nat.lt_succ_self _) ⟨((data4.set (a_+i5:Int).toNat e15).set (b_+i5:Int).toNat e18),(i5+1),L.keep (.cons (t:=0) J (fun _ _ h_=>h_) (.k 1 (.k 2 (.k 3 (.k 10 .nil))))),h⟩
 ·replace h:=h.2 hb_
  refine wp_exit ?_
  exact J3 data4 a s (L.keep (.cons (t:=0) J (fun _ _ h_=>h_) .nil)) h
theorem zef (v0:Value) {data_:(List Cl)} {a_:Int} {m_:Int} {b_:Int} {cmp_:(Cl × Cl × Int→Prop)} {r_:(List Cl)} (h:zq data_ a_ m_ b_ cmp_ r_):Fm Tryz.prog 189 (fun b=>v0.ownBlock=some b) [(Pd.prow En.cls 51 v0 data_),(Pi a_),(Pi m_),(Pi b_),(Pd.rep EnF211 cmp_)] (fun _ s' _=>(Pd.prow En.cls 51 v0 r_).p s' v0):=by
 unfold zq at h
 refine fm_of Tryz.func189 J Tryz.ntmps189 (by rfl) (by simp) fun s0 a L=>?_
 refine wp_seq_k fun K1 hK1=>?_
 obtain ⟨h2,h⟩:=h
 refine rg (sx 12 (zb (o_t 2 J) J J) L fun a s _ L=>?_)
 refine sx 13 (zb (o_t 1 J) J J) L fun a s _ L=>sx 14 (t_sub (o_t 12 J) (o_t 13 J) h2 J J) L fun a s _ L=>sx 10 (zd (o_t 14 J) J J) L fun a s _ L=>en' (hK1 _ _ ?_)
 refine wp_seq_k fun K3 hK3=>?_
 obtain ⟨h4,h⟩:=h
 refine rg (sx 15 (zb (o_t 3 J) J J) L fun a s _ L=>?_)
 refine sx 16 (zb (o_t 2 J) J J) L fun a s _ L=>sx 17 (t_sub (o_t 15 J) (o_t 16 J) h4 J J) L fun a s _ L=>sx 11 (zd (o_t 17 J) J J) L fun a s _ L=>en' (hK3 _ _ ?_)
 refine wp_seq_k fun K5 hK5=>wp_block ?_
 have J8:∀(data6:(List Cl)) (i7:Int) (a:Act) (s:St),Has (fun b=>v0.ownBlock=some b) 58 s0 a s [(0,(Pd.prow En.cls 51 v0 data6)),(2,(Pi m_)),(4,(Pd.rep EnF211 cmp_)),(10,(Pi i7))]→((zq.j1 m_ cmp_ r_) data6 i7)→K5 a s.w:=by
  intro data6 i7 a s L h
  unfold zq.j1 at h
  show K5 a s.w
  refine hK5 _ _ ?_
  obtain ⟨h9,r10,h11,h⟩:=h
  refine rg (sx 50 (zb (o_t 0 J) J J) L fun a s _ L=>?_)
  refine sx 51 (zb (o_t 2 J) J J) L fun a s _ L=>sx 52 (zb (o_t 10 J) J J) L fun a s _ L=>sx 53 (t_sub (o_t 51 J) (o_t 52 J) h9 J J) L fun a s _ L=>sx 54 (zb (o_t 2 J) J J) L fun a s _ L=>sx 55 (zb (o_t 10 J) J J) L fun a s _ L=>sx 56 (zb (o_t 4 J) J J) L fun a s _ L=>zed (L':=[(0,(Pd.prow En.cls 51 v0 r10))]) 57 (fun v0=>zb4 v0 h11) L (fun b h=>h) (o_t 50 J) (zs:=[.tmp 53,.tmp 54,.tmp 55,.tmp 56]) (.cons (o_t 53 J) (.cons (o_t 54 J) (.cons (o_t 55 J) (.cons (o_t 56 J) .nil)))) J J J J (.turn (t:=0) J .nil) fun a s L=>?_
  refine en' ?_
  subst h
  exact retm J L (c:=0) J
 obtain ⟨k15,h⟩:=h
 refine lpg (fun k16 a s=>∃(data12:(List Cl)) (i13:Int) (j14:Int),Has (fun b=>v0.ownBlock=some b) 58 s0 a s [(0,(Pd.prow En.cls 51 v0 data12)),(2,(Pi m_)),(4,(Pd.rep EnF211 cmp_)),(10,(Pi i13)),(11,(Pi j14))]∧zq.l1 m_ cmp_ (zq.j1 m_ cmp_ r_) k16 data12 i13 j14) k15 ⟨data_,(m_-a_),(b_-m_),L.keep (.cons (t:=0) J (fun _ _ h_=>h_) (.k 2 (.k 4 (.k 10 (.k 11 .nil))))),h⟩ ?_
 rintro k16 a s ⟨data12,i13,j14,L,h⟩ KL17 hKL17
 cases k16 with
 | zero=>exact h.elim
 | succ k16=>
 unfold zq.l1 at h
 refine wp_seq_k fun K18 hK18=>wp_seq_k fun K19 hK19=>rg (sx 18 (zb (o_t 10 J) J J) L fun a s _ L=>?_)
 refine sx 19 (zb (o_t 11 J) J J) L fun a s _ L=>sx 20 (t_nei (o_t 18 J) (o_t 19 J) J J) L fun a s _ L=>en' (hK19 _ _ ?_)
 refine cnd L J (fun hb_=>?_) (fun hb_=>?_)
 ·replace h:=h.1 hb_
  refine wp_skip ?_
  show K18 a s.w
  refine hK18 _ _ (wp_block ?_)
  refine wp_seq_k fun K20 hK20=>rg (sx 21 (zb (o_t 10 J) J J) L fun a s _ L=>?_)
  refine sx 22 (zb (o_t 11 J) J J) L fun a s _ L=>sx 23 (t_gtr (o_t 21 J) (o_t 22 J) J J) L fun a s _ L=>en' (hK20 _ _ ?_)
  refine cnd L J (fun hb_=>?_) (fun hb_=>?_)
  ·replace h:=h.1 hb_
   refine wp_seq_k fun K21 hK21=>?_
   obtain ⟨h22,r23,h24,h⟩:=h
   refine rg (sx 24 (zb (o_t 0 J) J J) L fun a s _ L=>?_)
   refine sx 25 (zb (o_t 2 J) J J) L fun a s _ L=>sx 26 (zb (o_t 10 J) J J) L fun a s _ L=>sx 27 (t_sub (o_t 25 J) (o_t 26 J) h22 J J) L fun a s _ L=>sx 28 (zb (o_t 2 J) J J) L fun a s _ L=>sx 29 (zb (o_t 11 J) J J) L fun a s _ L=>sx 30 (zb (o_t 4 J) J J) L fun a s _ L=>zed (L':=[(0,(Pd.prow En.cls 51 v0 r23)),(2,(Pi m_)),(4,(Pd.rep EnF211 cmp_)),(10,(Pi i13)),(11,(Pi j14))]) 31 (fun v0=>zb4 v0 h24) L (fun b h=>h) (o_t 24 J) (zs:=[.tmp 27,.tmp 28,.tmp 29,.tmp 30]) (.cons (o_t 27 J) (.cons (o_t 28 J) (.cons (o_t 29 J) (.cons (o_t 30 J) .nil)))) J J J J (.turn (t:=0) J (.k 2 (.k 4 (.k 10 (.k 11 .nil))))) fun a s L=>?_
   refine en' (hK21 _ _ ?_)
   obtain ⟨h25,h⟩:=h
   refine rg (sx 32 (zb (o_t 10 J) J J) L fun a s _ L=>?_)
   refine sx 33 (zb (o_t 11 J) J J) L fun a s _ L=>sx 34 (t_sub (o_t 32 J) (o_t 33 J) h25 J J) L fun a s _ L=>sx 10 (zd (o_t 34 J) J J) L fun a s _ L=>en' ?_
   exact hKL17 k16 a s (Nat.lt_succ_self _) ⟨r23,(i13-j14),j14,L.keep (.cons (t:=0) J (fun _ _ h_=>h_) (.k 2 (.k 4 (.k 10 (.k 11 .nil))))),h⟩
  ·replace h:=h.2 hb_
   refine wp_seq_k fun K26 hK26=>?_
   obtain ⟨h27,h28,h29,r30,h31,h⟩:=h
   refine rg (sx 35 (zb (o_t 0 J) J J) L fun a s _ L=>?_)
   refine sx 36 (zb (o_t 2 J) J J) L fun a s _ L=>sx 37 (zb (o_t 10 J) J J) L fun a s _ L=>sx 38 (t_sub (o_t 36 J) (o_t 37 J) h27 J J) L fun a s _ L=>sx 39 (zb (o_t 2 J) J J) L fun a s _ L=>sx 40 (zb (o_t 11 J) J J) L fun a s _ L=>sx 41 (t_add (o_t 39 J) (o_t 40 J) h28 J J) L fun a s _ L=>sx 42 (zb (o_t 10 J) J J) L fun a s _ L=>sx 43 (t_sub (o_t 41 J) (o_t 42 J) h29 J J) L fun a s _ L=>sx 44 (zb (o_t 10 J) J J) L fun a s _ L=>?_
   refine sx 45 (zb (o_t 4 J) J J) L fun a s _ L=>zed (L':=[(0,(Pd.prow En.cls 51 v0 r30)),(2,(Pi m_)),(4,(Pd.rep EnF211 cmp_)),(10,(Pi i13)),(11,(Pi j14))]) 46 (fun v0=>zb4 v0 h31) L (fun b h=>h) (o_t 35 J) (zs:=[.tmp 38,.tmp 43,.tmp 44,.tmp 45]) (.cons (o_t 38 J) (.cons (o_t 43 J) (.cons (o_t 44 J) (.cons (o_t 45 J) .nil)))) J J J J (.turn (t:=0) J (.k 2 (.k 4 (.k 10 (.k 11 .nil))))) fun a s L=>?_
   refine en' (hK26 _ _ ?_)
   obtain ⟨h32,h⟩:=h
   refine rg (sx 47 (zb (o_t 11 J) J J) L fun a s _ L=>?_)
   refine sx 48 (zb (o_t 10 J) J J) L fun a s _ L=>sx 49 (t_sub (o_t 47 J) (o_t 48 J) h32 J J) L fun a s _ L=>sx 11 (zd (o_t 49 J) J J) L fun a s _ L=>en' ?_
   exact hKL17 k16 a s (Nat.lt_succ_self _) ⟨r30,i13,(j14-i13),L.keep (.cons (t:=0) J (fun _ _ h_=>h_) (.k 2 (.k 4 (.k 10 (.k 11 .nil))))),h⟩
 ·replace h:=h.2 hb_
  refine wp_exit ?_
  exact J8 data12 i13 a s (L.keep (.cons (t:=0) J (fun _ _ h_=>h_) (.k 2 (.k 4 (.k 10 .nil))))) h
theorem za.n_ok (k_:Nat):∀(v0:Value) {data_:(List Cl)} {a_:Int} {m_:Int} {b_:Int} {cmp_:(Cl × Cl × Int→Prop)} {r_:(List Cl)} (h:za.n k_ data_ a_ m_ b_ cmp_ r_),Fm Tryz.prog 186 (fun b=>v0.ownBlock=some b) [(Pd.prow En.cls 51 v0 data_),(Pi a_),(Pi m_),(Pi b_),(Pd.rep EnF211 cmp_)] (fun _ s' _=>(Pd.prow En.cls 51 v0 r_).p s' v0):=by
 induction k_ with
 | zero=>intro v0 data_ a_ m_ b_ cmp_ r_ h;exact h.elim
 | succ k_ ih_=>
 intro v0 data_ a_ m_ b_ cmp_ r_ h
 unfold za.n at h
 refine fm_of Tryz.func186 J Tryz.ntmps186 (by rfl) (by simp) fun s0 a L=>?_
 refine wp_seq_k fun K1 hK1=>wp_seq_k fun K2 hK2=>?_
 obtain ⟨h3,h⟩:=h
 refine rg (sx 25 (zb (o_t 2 J) J J) L fun a s _ L=>?_)
 refine sx 26 (zb (o_t 1 J) J J) L fun a s _ L=>sx 27 (t_sub (o_t 25 J) (o_t 26 J) h3 J J) L fun a s _ L=>sx 28 (t_eqi (o_t 27 J) oI J J) L fun a s _ L=>en' (hK2 _ _ ?_)
 refine cnd L J (fun hb_=>?_) (fun hb_=>?_)
 ·replace h:=h.1 hb_
  refine wp_seq_k fun K4 hK4=>rg (sx 29 (zb (o_t 2 J) J J) L fun a s _ L=>?_)
  refine sx 10 (zd (o_t 29 J) J J) L fun a s _ L=>en' (hK4 _ _ ?_)
  refine wp_seq_k fun K5 hK5=>rg (sx 30 (zb (o_t 3 J) J J) L fun a s _ L=>?_)
  refine sx 11 (zd (o_t 30 J) J J) L fun a s _ L=>en' (hK5 _ _ ?_)
  refine wp_seq_k fun K6 hK6=>wp_block ?_
  have J8:∀(i7:Int) (a:Act) (s:St),Has (fun b=>v0.ownBlock=some b) 220 s0 a s [(0,(Pd.prow En.cls 51 v0 data_)),(1,(Pi a_)),(10,(Pi i7))]→((za.j2 data_ a_ r_) i7)→K6 a s.w:=by
   intro i7 a s L h
   unfold za.j2 at h
   show K6 a s.w
   refine hK6 _ _ (wp_seq_k fun K9 hK9=>?_)
   refine wp_seq_k fun K10 hK10=>rg (sx 54 (zb (o_t 1 J) J J) L fun a s _ L=>?_)
   refine sx 13 (zd (o_t 54 J) J J) L fun a s _ L=>en' (hK10 _ _ ?_)
   refine wp_block ?_
   have J12:∀(data11:(List Cl)) (a:Act) (s:St),Has (fun b=>v0.ownBlock=some b) 220 s0 a s [(0,(Pd.prow En.cls 51 v0 data11))]→((za.j1 r_) data11)→K9 a s.w:=by
    intro data11 a s L h
    unfold za.j1 at h
    show K9 a s.w
    refine hK9 _ _ ?_
    subst h
    exact wp_ret (retm J L (c:=0) J)
   obtain ⟨k15,h⟩:=h
   refine lpg (fun k16 a s=>∃(data13:(List Cl)) (k14:Int),Has (fun b=>v0.ownBlock=some b) 220 s0 a s [(0,(Pd.prow En.cls 51 v0 data13)),(10,(Pi i7)),(13,(Pi k14))]∧za.l1 i7 (za.j1 r_) k16 data13 k14) k15 ⟨data_,a_,L.keep (.cons (t:=0) J (fun _ _ h_=>h_) (.k 10 (.k 13 .nil))),h⟩ ?_
   rintro k16 a s ⟨data13,k14,L,h⟩ KL17 hKL17
   cases k16 with
   | zero=>exact h.elim
   | succ k16=>
   unfold za.l1 at h
   refine wp_seq_k fun K18 hK18=>wp_seq_k fun K19 hK19=>?_
   obtain ⟨h20,h⟩:=h
   refine rg (sx 55 (zb (o_t 13 J) J J) L fun a s _ L=>?_)
   refine sx 56 (zb (o_t 10 J) J J) L fun a s _ L=>sx 57 (t_sub (o_t 56 J) oI h20 J J) L fun a s _ L=>sx 58 (t_lss (o_t 55 J) (o_t 57 J) J J) L fun a s _ L=>en' (hK19 _ _ ?_)
   refine cnd L J (fun hb_=>?_) (fun hb_=>?_)
   ·replace h:=h.1 hb_
    refine wp_skip ?_
    show K18 a s.w
    refine hK18 _ _ (wp_seq_k fun K21 hK21=>?_)
    refine wp_block ?_
    obtain ⟨h22,h23,e24,h25,e26,h27,e28,h29,e30,h31,h⟩:=h
    refine rdf 18 zbk L (by kernel_rfl) fun s _ L=>?_
    refine zd8 2 63 L (by rfl) (by kernel_rfl) (by kernel_rfl) (by kernel_rfl) (fun _ _ _ _ h=>h) (q:=(Pd.prow En.cls 51 v0 data13)) (y_move (o_t 0 J) J J) J J fun a L=>?_
    refine zd8 3 64 L (by rfl) (by kernel_rfl) (by kernel_rfl) (by kernel_rfl) (fun _ _ _ _ h=>h) (q:=(Pi k14)) (y_move (o_t 13 J) J J) J J fun a L=>?_
    refine zd8 4 65 L (by rfl) (by kernel_rfl) (by kernel_rfl) (by kernel_rfl) (fun _ _ _ _ h=>h) (q:=(Pi (k14+1))) (y_add (o_t 64 J) oI h22 J J) J J fun a L=>?_
    refine fl_go 15 [(Pd.prow En.cls 51 v0 data13),(Pi k14),(Pd.prow En.cls 51 v0 data13),(Pi k14),(Pi (k14+1)),(Pd.prow En.cls 51 v0 data13),(Pi k14),(Pi (k14+1)),(Pd.optr En.cls 0 v0.ownBlock ((k14+1:Int).toNat*En.cls.sz) e24),(Pd.rep En.cls e24),(Pd.prow En.cls 51 v0 data13),(Pi k14),(Pd.optr En.cls 0 v0.ownBlock ((k14:Int).toNat*En.cls.sz) e26),(Pd.rep En.cls e26),(Pd.optr En.cls 0 v0.ownBlock ((k14:Int).toNat*En.cls.sz) e28)] [2,3,4] L (by kernel_rfl) (by kernel_rfl) (by kernel_rfl) (.cons (i:=2) J J J J (.cons (i:=3) J J J J (.cons (i:=4) J J J J .nil))) J J ?_ ?_
    ·refine AllF.cons (zb (o_t 0 J) J J) ?_
     refine AllF.cons (zb (o_t 13 J) J J) (AllF.skip J ?_)
     refine AllF.skip J (AllF.skip J ?_)
     refine AllF.cons (zb (o_t 0 J) J J) (AllF.cons (zb (o_t 13 J) J J) ?_)
     refine AllF.cons (t_add (o_t 67 J) oI h23 J J) (AllF.cons (zbx (o_p (o_t 66 J)) (o_t 68 J) h25 Tryz.underlying36 ty51 J J) ?_)
     refine AllF.cons (zt ty51 (o_t 69 J) J J) (AllF.cons (zb (o_t 0 J) J J) ?_)
     refine AllF.cons (zb (o_t 13 J) J J) (AllF.cons (zbx (o_p (o_t 71 J)) (o_t 72 J) h27 Tryz.underlying36 ty51 J J) ?_)
     refine AllF.cons (zt ty51 (o_t 73 J) J J) (AllF.cons (zbx (o_p (o_t 61 J)) (o_t 62 J) h29 Tryz.underlying36 ty51 J J) ?_)
     exact AllF.nil
    intro a s _ L
    refine st_storp (L':=[(0,(Pd.prow En.cls 51 v0 (data13.set (k14:Int).toNat e24))),(10,(Pi i7)),(13,(Pi k14)),(63,(Pd.prow En.cls 51 v0 (data13.set (k14:Int).toNat e24))),(65,(Pi (k14+1))),(74,(Pd.rep En.cls e26))]) (off:=0) 0 (fun b h=>h) L J h29 (o_t 75 J) (o_t 70 J) (zy _ _ _) ty51 J J J (.turn (t:=0) J (.k 10 (.k 13 (.turn (t:=63) J (.k 65 (.k 74 .nil)))))) fun s L=>?_
    refine sx 76 (zbx (o_p (o_t 63 J)) (o_t 65 J) h31 Tryz.underlying36 ty51 J J) L fun a s _ L=>st_storp (L':=[(0,(Pd.prow En.cls 51 v0 ((data13.set (k14:Int).toNat e24).set (k14+1:Int).toNat e26))),(10,(Pi i7)),(13,(Pi k14))]) (off:=0) 0 (fun b h=>h) L J h31 (o_t 76 J) (o_t 74 J) (zy _ _ _) ty51 J J J (.turn (t:=0) J (.k 10 (.k 13 .nil))) fun s L=>?_
    refine en' (hK21 _ _ ?_)
    obtain ⟨h32,h⟩:=h
    refine rg (sx 59 (zb (o_t 13 J) J J) L fun a s _ L=>?_)
    refine sx 60 (t_add (o_t 59 J) oI h32 J J) L fun a s _ L=>sx 13 (zd (o_t 60 J) J J) L fun a s _ L=>en' ?_
    exact hKL17 k16 a s (Nat.lt_succ_self _) ⟨((data13.set (k14:Int).toNat e24).set (k14+1:Int).toNat e26),(k14+1),L.keep (.cons (t:=0) J (fun _ _ h_=>h_) (.k 10 (.k 13 .nil))),h⟩
   ·replace h:=h.2 hb_
    refine wp_exit ?_
    exact J12 data13 a s (L.keep (.cons (t:=0) J (fun _ _ h_=>h_) .nil)) h
  obtain ⟨k35,h⟩:=h
  refine lpg (fun k36 a s=>∃(i33:Int) (j34:Int),Has (fun b=>v0.ownBlock=some b) 220 s0 a s [(0,(Pd.prow En.cls 51 v0 data_)),(1,(Pi a_)),(4,(Pd.rep EnF211 cmp_)),(10,(Pi i33)),(11,(Pi j34))]∧za.l2 data_ a_ cmp_ (za.j2 data_ a_ r_) k36 i33 j34) k35 ⟨m_,b_,L.keep (.cons (t:=0) J (fun _ _ h_=>h_) (.k 1 (.k 4 (.k 10 (.k 11 .nil))))),h⟩ ?_
  rintro k36 a s ⟨i33,j34,L,h⟩ KL37 hKL37
  cases k36 with
  | zero=>exact h.elim
  | succ k36=>
  unfold za.l2 at h
  refine wp_seq_k fun K38 hK38=>wp_seq_k fun K39 hK39=>rg (sx 31 (zb (o_t 10 J) J J) L fun a s _ L=>?_)
  refine sx 32 (zb (o_t 11 J) J J) L fun a s _ L=>sx 33 (t_lss (o_t 31 J) (o_t 32 J) J J) L fun a s _ L=>en' (hK39 _ _ ?_)
  refine cnd L J (fun hb_=>?_) (fun hb_=>?_)
  ·replace h:=h.1 hb_
   refine wp_skip ?_
   show K38 a s.w
   refine hK38 _ _ (wp_block ?_)
   refine wp_seq_k fun K40 hK40=>?_
   obtain ⟨h41,i42,h43,h⟩:=h
   refine rg (sx 34 (zb (o_t 10 J) J J) L fun a s _ L=>?_)
   refine sx 35 (zb (o_t 11 J) J J) L fun a s _ L=>sx 36 (t_add (o_t 34 J) (o_t 35 J) h41 J J) L fun a s _ L=>sx 37 (t_cvt (o_t 36 J) Tryz.underlying3 Tryz.underlying133 J J) L fun a s _ L=>sx 38 (t_shr (o_t 37 J) (o_i (k:=.u64) (by decide)) (by decide) J J) L fun a s _ L=>sx 39 (h43 ▸ (t_cvt (o_t 38 J) Tryz.underlying133 Tryz.underlying3 J J)) L fun a s _ L=>sx 12 (zd (o_t 39 J) J J) L fun a s _ L=>en' (hK40 _ _ ?_)
   refine wp_seq_k fun K44 hK44=>?_
   obtain ⟨e45,h46,e47,h48,r49,h50,h⟩:=h
   refine rda zbk 11 [(Pd.rep EnF211 cmp_),(Pd.prow En.cls 51 v0 data_),(Pi i42),(Pd.optr En.cls 0 v0.ownBlock ((i42:Int).toNat*En.cls.sz) e45),(Pd.rep En.cls e45),(Pd.prow En.cls 51 v0 data_),(Pi a_),(Pd.optr En.cls 0 v0.ownBlock ((a_:Int).toNat*En.cls.sz) e47),(Pd.rep En.cls e47),(Pi r49),(Pd.rep En.bool (decide (r49<0)))] L (by kernel_rfl) J J ?_ ?_
   ·refine AllT.cons (zb (o_t 4 J) J J) ?_
    refine AllT.cons (zb (o_t 0 J) J J) (AllT.cons (zb (o_t 12 J) J J) ?_)
    refine AllT.cons (zbx (o_p (o_t 41 J)) (o_t 42 J) h46 Tryz.underlying36 ty51 J J) (AllT.cons (zt ty51 (o_t 43 J) J J) ?_)
    refine AllT.cons (zb (o_t 0 J) J J) (AllT.cons (zb (o_t 1 J) J J) ?_)
    refine AllT.cons (zbx (o_p (o_t 45 J)) (o_t 46 J) h48 Tryz.underlying36 ty51 J J) (AllT.cons (zt ty51 (o_t 47 J) J J) ?_)
    refine AllT.cons (t_callf (q:=(e45,e47,r49)) (o_t 40 J) h50 (xs:=[.tmp 44,.tmp 48]) (.cons (o_t 44 J) (.cons (o_t 48 J) .nil)) (fun _ _ _ h_=>h_) J J) (AllT.cons (t_lss (o_t 49 J) oI J J) ?_)
    exact AllT.nil
   intro a s _ L
   refine en' (hK44 _ _ ?_)
   refine cnd L J (fun hb_=>?_) (fun hb_=>?_)
   ·obtain ⟨h51,h⟩:=h.1 hb_
    refine rg (sx 51 (zb (o_t 12 J) J J) L fun a s _ L=>?_)
    refine sx 52 (t_add (o_t 51 J) oI h51 J J) L fun a s _ L=>sx 10 (zd (o_t 52 J) J J) L fun a s _ L=>en' ?_
    exact hKL37 k36 a s (Nat.lt_succ_self _) ⟨(i42+1),j34,L.keep (.cons (t:=0) J (fun _ _ h_=>h_) (.k 1 (.k 4 (.k 10 (.k 11 .nil))))),h⟩
   ·replace h:=h.2 hb_
    refine rg (sx 53 (zb (o_t 12 J) J J) L fun a s _ L=>?_)
    refine sx 11 (zd (o_t 53 J) J J) L fun a s _ L=>en' ?_
    exact hKL37 k36 a s (Nat.lt_succ_self _) ⟨i33,i42,L.keep (.cons (t:=0) J (fun _ _ h_=>h_) (.k 1 (.k 4 (.k 10 (.k 11 .nil))))),h⟩
  ·replace h:=h.2 hb_
   refine wp_exit ?_
   exact J8 i33 a s (L.keep (.cons (t:=0) J (fun _ _ h_=>h_) (.k 1 (.k 10 .nil)))) h
 ·replace h:=h.2 hb_
  refine wp_skip ?_
  show K1 a s.w
  refine hK1 _ _ (wp_seq_k fun K52 hK52=>?_)
  refine wp_seq_k fun K53 hK53=>?_
  obtain ⟨h54,h⟩:=h
  refine rg (sx 77 (zb (o_t 3 J) J J) L fun a s _ L=>?_)
  refine sx 78 (zb (o_t 2 J) J J) L fun a s _ L=>sx 79 (t_sub (o_t 77 J) (o_t 78 J) h54 J J) L fun a s _ L=>sx 80 (t_eqi (o_t 79 J) oI J J) L fun a s _ L=>en' (hK53 _ _ ?_)
  refine cnd L J (fun hb_=>?_) (fun hb_=>?_)
  ·replace h:=h.1 hb_
   refine wp_seq_k fun K55 hK55=>rg (sx 81 (zb (o_t 1 J) J J) L fun a s _ L=>?_)
   refine sx 14 (zd (o_t 81 J) J J) L fun a s _ L=>en' (hK55 _ _ ?_)
   refine wp_seq_k fun K56 hK56=>rg (sx 82 (zb (o_t 2 J) J J) L fun a s _ L=>?_)
   refine sx 15 (zd (o_t 82 J) J J) L fun a s _ L=>en' (hK56 _ _ ?_)
   refine wp_seq_k fun K57 hK57=>wp_block ?_
   have J59:∀(i58:Int) (a:Act) (s:St),Has (fun b=>v0.ownBlock=some b) 220 s0 a s [(0,(Pd.prow En.cls 51 v0 data_)),(2,(Pi m_)),(14,(Pi i58))]→((za.j4 data_ m_ r_) i58)→K57 a s.w:=by
    intro i58 a s L h
    unfold za.j4 at h
    show K57 a s.w
    refine hK57 _ _ (wp_seq_k fun K60 hK60=>?_)
    refine wp_seq_k fun K61 hK61=>rg (sx 107 (zb (o_t 2 J) J J) L fun a s _ L=>?_)
    refine sx 17 (zd (o_t 107 J) J J) L fun a s _ L=>en' (hK61 _ _ ?_)
    refine wp_block ?_
    have J63:∀(data62:(List Cl)) (a:Act) (s:St),Has (fun b=>v0.ownBlock=some b) 220 s0 a s [(0,(Pd.prow En.cls 51 v0 data62))]→((za.j3 r_) data62)→K60 a s.w:=by
     intro data62 a s L h
     unfold za.j3 at h
     show K60 a s.w
     refine hK60 _ _ ?_
     subst h
     exact wp_ret (retm J L (c:=0) J)
    obtain ⟨k66,h⟩:=h
    refine lpg (fun k67 a s=>∃(data64:(List Cl)) (k65:Int),Has (fun b=>v0.ownBlock=some b) 220 s0 a s [(0,(Pd.prow En.cls 51 v0 data64)),(14,(Pi i58)),(17,(Pi k65))]∧za.l3 i58 (za.j3 r_) k67 data64 k65) k66 ⟨data_,m_,L.keep (.cons (t:=0) J (fun _ _ h_=>h_) (.k 14 (.k 17 .nil))),h⟩ ?_
    rintro k67 a s ⟨data64,k65,L,h⟩ KL68 hKL68
    cases k67 with
    | zero=>exact h.elim
    | succ k67=>
    unfold za.l3 at h
    refine wp_seq_k fun K69 hK69=>wp_seq_k fun K70 hK70=>rg (sx 108 (zb (o_t 17 J) J J) L fun a s _ L=>?_)
    refine sx 109 (zb (o_t 14 J) J J) L fun a s _ L=>sx 110 (t_gtr (o_t 108 J) (o_t 109 J) J J) L fun a s _ L=>en' (hK70 _ _ ?_)
    refine cnd L J (fun hb_=>?_) (fun hb_=>?_)
    ·replace h:=h.1 hb_
     refine wp_skip ?_
     show K69 a s.w
     refine hK69 _ _ (wp_seq_k fun K71 hK71=>?_)
     refine wp_block ?_
     obtain ⟨h72,h73,e74,h75,e76,h77,e78,h79,e80,h81,h⟩:=h
     refine rdf 18 zbk L (by kernel_rfl) fun s _ L=>?_
     refine zd8 2 115 L (by rfl) (by kernel_rfl) (by kernel_rfl) (by kernel_rfl) (fun _ _ _ _ h=>h) (q:=(Pd.prow En.cls 51 v0 data64)) (y_move (o_t 0 J) J J) J J fun a L=>?_
     refine zd8 3 116 L (by rfl) (by kernel_rfl) (by kernel_rfl) (by kernel_rfl) (fun _ _ _ _ h=>h) (q:=(Pi k65)) (y_move (o_t 17 J) J J) J J fun a L=>?_
     refine zd8 4 117 L (by rfl) (by kernel_rfl) (by kernel_rfl) (by kernel_rfl) (fun _ _ _ _ h=>h) (q:=(Pi (k65-1))) (y_sub (o_t 116 J) oI h72 J J) J J fun a L=>?_
     refine fl_go 15 [(Pd.prow En.cls 51 v0 data64),(Pi k65),(Pd.prow En.cls 51 v0 data64),(Pi k65),(Pi (k65-1)),(Pd.prow En.cls 51 v0 data64),(Pi k65),(Pi (k65-1)),(Pd.optr En.cls 0 v0.ownBlock ((k65-1:Int).toNat*En.cls.sz) e74),(Pd.rep En.cls e74),(Pd.prow En.cls 51 v0 data64),(Pi k65),(Pd.optr En.cls 0 v0.ownBlock ((k65:Int).toNat*En.cls.sz) e76),(Pd.rep En.cls e76),(Pd.optr En.cls 0 v0.ownBlock ((k65:Int).toNat*En.cls.sz) e78)] [2,3,4] L (by kernel_rfl) (by kernel_rfl) (by kernel_rfl) (.cons (i:=2) J J J J (.cons (i:=3) J J J J (.cons (i:=4) J J J J .nil))) J J ?_ ?_
     ·refine AllF.cons (zb (o_t 0 J) J J) ?_
      refine AllF.cons (zb (o_t 17 J) J J) (AllF.skip J ?_)
      refine AllF.skip J (AllF.skip J ?_)
      refine AllF.cons (zb (o_t 0 J) J J) (AllF.cons (zb (o_t 17 J) J J) ?_)
      refine AllF.cons (t_sub (o_t 119 J) oI h73 J J) (AllF.cons (zbx (o_p (o_t 118 J)) (o_t 120 J) h75 Tryz.underlying36 ty51 J J) ?_)
      refine AllF.cons (zt ty51 (o_t 121 J) J J) (AllF.cons (zb (o_t 0 J) J J) ?_)
      refine AllF.cons (zb (o_t 17 J) J J) (AllF.cons (zbx (o_p (o_t 123 J)) (o_t 124 J) h77 Tryz.underlying36 ty51 J J) ?_)
      refine AllF.cons (zt ty51 (o_t 125 J) J J) (AllF.cons (zbx (o_p (o_t 113 J)) (o_t 114 J) h79 Tryz.underlying36 ty51 J J) ?_)
      exact AllF.nil
     intro a s _ L
     refine st_storp (L':=[(0,(Pd.prow En.cls 51 v0 (data64.set (k65:Int).toNat e74))),(14,(Pi i58)),(17,(Pi k65)),(115,(Pd.prow En.cls 51 v0 (data64.set (k65:Int).toNat e74))),(117,(Pi (k65-1))),(126,(Pd.rep En.cls e76))]) (off:=0) 0 (fun b h=>h) L J h79 (o_t 127 J) (o_t 122 J) (zy _ _ _) ty51 J J J (.turn (t:=0) J (.k 14 (.k 17 (.turn (t:=115) J (.k 117 (.k 126 .nil)))))) fun s L=>?_
     refine sx 128 (zbx (o_p (o_t 115 J)) (o_t 117 J) h81 Tryz.underlying36 ty51 J J) L fun a s _ L=>st_storp (L':=[(0,(Pd.prow En.cls 51 v0 ((data64.set (k65:Int).toNat e74).set (k65-1:Int).toNat e76))),(14,(Pi i58)),(17,(Pi k65))]) (off:=0) 0 (fun b h=>h) L J h81 (o_t 128 J) (o_t 126 J) (zy _ _ _) ty51 J J J (.turn (t:=0) J (.k 14 (.k 17 .nil))) fun s L=>?_
     refine en' (hK71 _ _ ?_)
     obtain ⟨h82,h⟩:=h
     refine rg (sx 111 (zb (o_t 17 J) J J) L fun a s _ L=>?_)
     refine sx 112 (t_sub (o_t 111 J) oI h82 J J) L fun a s _ L=>sx 17 (zd (o_t 112 J) J J) L fun a s _ L=>en' ?_
     exact hKL68 k67 a s (Nat.lt_succ_self _) ⟨((data64.set (k65:Int).toNat e74).set (k65-1:Int).toNat e76),(k65-1),L.keep (.cons (t:=0) J (fun _ _ h_=>h_) (.k 14 (.k 17 .nil))),h⟩
    ·replace h:=h.2 hb_
     refine wp_exit ?_
     exact J63 data64 a s (L.keep (.cons (t:=0) J (fun _ _ h_=>h_) .nil)) h
   obtain ⟨k85,h⟩:=h
   refine lpg (fun k86 a s=>∃(i83:Int) (j84:Int),Has (fun b=>v0.ownBlock=some b) 220 s0 a s [(0,(Pd.prow En.cls 51 v0 data_)),(2,(Pi m_)),(4,(Pd.rep EnF211 cmp_)),(14,(Pi i83)),(15,(Pi j84))]∧za.l4 data_ m_ cmp_ (za.j4 data_ m_ r_) k86 i83 j84) k85 ⟨a_,m_,L.keep (.cons (t:=0) J (fun _ _ h_=>h_) (.k 2 (.k 4 (.k 14 (.k 15 .nil))))),h⟩ ?_
   rintro k86 a s ⟨i83,j84,L,h⟩ KL87 hKL87
   cases k86 with
   | zero=>exact h.elim
   | succ k86=>
   unfold za.l4 at h
   refine wp_seq_k fun K88 hK88=>wp_seq_k fun K89 hK89=>rg (sx 83 (zb (o_t 14 J) J J) L fun a s _ L=>?_)
   refine sx 84 (zb (o_t 15 J) J J) L fun a s _ L=>sx 85 (t_lss (o_t 83 J) (o_t 84 J) J J) L fun a s _ L=>en' (hK89 _ _ ?_)
   refine cnd L J (fun hb_=>?_) (fun hb_=>?_)
   ·replace h:=h.1 hb_
    refine wp_skip ?_
    show K88 a s.w
    refine hK88 _ _ (wp_block ?_)
    refine wp_seq_k fun K90 hK90=>?_
    obtain ⟨h91,i92,h93,h⟩:=h
    refine rg (sx 86 (zb (o_t 14 J) J J) L fun a s _ L=>?_)
    refine sx 87 (zb (o_t 15 J) J J) L fun a s _ L=>sx 88 (t_add (o_t 86 J) (o_t 87 J) h91 J J) L fun a s _ L=>sx 89 (t_cvt (o_t 88 J) Tryz.underlying3 Tryz.underlying133 J J) L fun a s _ L=>sx 90 (t_shr (o_t 89 J) (o_i (k:=.u64) (by decide)) (by decide) J J) L fun a s _ L=>sx 91 (h93 ▸ (t_cvt (o_t 90 J) Tryz.underlying133 Tryz.underlying3 J J)) L fun a s _ L=>sx 16 (zd (o_t 91 J) J J) L fun a s _ L=>en' (hK90 _ _ ?_)
    refine wp_seq_k fun K94 hK94=>?_
    obtain ⟨e95,h96,e97,h98,r99,h100,h⟩:=h
    refine rda zbk 12 [(Pd.rep EnF211 cmp_),(Pd.prow En.cls 51 v0 data_),(Pi m_),(Pd.optr En.cls 0 v0.ownBlock ((m_:Int).toNat*En.cls.sz) e95),(Pd.rep En.cls e95),(Pd.prow En.cls 51 v0 data_),(Pi i92),(Pd.optr En.cls 0 v0.ownBlock ((i92:Int).toNat*En.cls.sz) e97),(Pd.rep En.cls e97),(Pi r99),(Pd.rep En.bool (decide (r99<0))),(Pd.rep En.bool (!(decide (r99<0))))] L (by kernel_rfl) J J ?_ ?_
    ·refine AllT.cons (zb (o_t 4 J) J J) ?_
     refine AllT.cons (zb (o_t 0 J) J J) (AllT.cons (zb (o_t 2 J) J J) ?_)
     refine AllT.cons (zbx (o_p (o_t 93 J)) (o_t 94 J) h96 Tryz.underlying36 ty51 J J) (AllT.cons (zt ty51 (o_t 95 J) J J) ?_)
     refine AllT.cons (zb (o_t 0 J) J J) (AllT.cons (zb (o_t 16 J) J J) ?_)
     refine AllT.cons (zbx (o_p (o_t 97 J)) (o_t 98 J) h98 Tryz.underlying36 ty51 J J) (AllT.cons (zt ty51 (o_t 99 J) J J) ?_)
     refine AllT.cons (t_callf (q:=(e95,e97,r99)) (o_t 92 J) h100 (xs:=[.tmp 96,.tmp 100]) (.cons (o_t 96 J) (.cons (o_t 100 J) .nil)) (fun _ _ _ h_=>h_) J J) (AllT.cons (t_lss (o_t 101 J) oI J J) ?_)
     refine AllT.cons (t_not (o_t 102 J) J J) ?_
     exact AllT.nil
    intro a s _ L
    refine en' (hK94 _ _ ?_)
    refine cnd L J (fun hb_=>?_) (fun hb_=>?_)
    ·obtain ⟨h101,h⟩:=h.1 hb_
     refine rg (sx 104 (zb (o_t 16 J) J J) L fun a s _ L=>?_)
     refine sx 105 (t_add (o_t 104 J) oI h101 J J) L fun a s _ L=>sx 14 (zd (o_t 105 J) J J) L fun a s _ L=>en' ?_
     exact hKL87 k86 a s (Nat.lt_succ_self _) ⟨(i92+1),j84,L.keep (.cons (t:=0) J (fun _ _ h_=>h_) (.k 2 (.k 4 (.k 14 (.k 15 .nil))))),h⟩
    ·replace h:=h.2 hb_
     refine rg (sx 106 (zb (o_t 16 J) J J) L fun a s _ L=>?_)
     refine sx 15 (zd (o_t 106 J) J J) L fun a s _ L=>en' ?_
     exact hKL87 k86 a s (Nat.lt_succ_self _) ⟨i83,i92,L.keep (.cons (t:=0) J (fun _ _ h_=>h_) (.k 2 (.k 4 (.k 14 (.k 15 .nil))))),h⟩
   ·replace h:=h.2 hb_
    refine wp_exit ?_
    exact J59 i83 a s (L.keep (.cons (t:=0) J (fun _ _ h_=>h_) (.k 2 (.k 14 .nil)))) h
  ·replace h:=h.2 hb_
   refine wp_skip ?_
   show K52 a s.w
   refine hK52 _ _ (wp_seq_k fun K102 hK102=>?_)
   obtain ⟨h103,i104,h105,h⟩:=h
   refine rg (sx 129 (zb (o_t 1 J) J J) L fun a s _ L=>?_)
   refine sx 130 (zb (o_t 3 J) J J) L fun a s _ L=>sx 131 (t_add (o_t 129 J) (o_t 130 J) h103 J J) L fun a s _ L=>sx 132 (t_cvt (o_t 131 J) Tryz.underlying3 Tryz.underlying133 J J) L fun a s _ L=>sx 133 (t_shr (o_t 132 J) (o_i (k:=.u64) (by decide)) (by decide) J J) L fun a s _ L=>sx 134 (h105 ▸ (t_cvt (o_t 133 J) Tryz.underlying133 Tryz.underlying3 J J)) L fun a s _ L=>sx 18 (zd (o_t 134 J) J J) L fun a s _ L=>en' (hK102 _ _ ?_)
   refine wp_seq_k fun K106 hK106=>?_
   obtain ⟨h107,h⟩:=h
   refine rg (sx 135 (zb (o_t 18 J) J J) L fun a s _ L=>?_)
   refine sx 136 (zb (o_t 2 J) J J) L fun a s _ L=>sx 137 (t_add (o_t 135 J) (o_t 136 J) h107 J J) L fun a s _ L=>sx 19 (zd (o_t 137 J) J J) L fun a s _ L=>en' (hK106 _ _ ?_)
   refine wp_seq_k fun K108 hK108=>rg (sx 20 (zd oI J J) L fun a s _ L=>?_)
   refine sx 21 (zd oI J J) L fun a s _ L=>en' (hK108 _ _ ?_)
   refine wp_seq_k fun K109 hK109=>wp_seq_k fun K110 hK110=>rg (sx 138 (zb (o_t 2 J) J J) L fun a s _ L=>?_)
   refine sx 139 (zb (o_t 18 J) J J) L fun a s _ L=>sx 140 (t_gtr (o_t 138 J) (o_t 139 J) J J) L fun a s _ L=>en' (hK110 _ _ ?_)
   have J113:∀(start111:Int) (r112:Int) (a:Act) (s:St),Has (fun b=>v0.ownBlock=some b) 220 s0 a s [(0,(Pd.prow En.cls 51 v0 data_)),(1,(Pi a_)),(2,(Pi m_)),(3,(Pi b_)),(4,(Pd.rep EnF211 cmp_)),(18,(Pi i104)),(19,(Pi (i104+m_))),(20,(Pi start111)),(21,(Pi r112))]→((za.j8 (za.n k_) data_ a_ m_ b_ cmp_ r_ i104) start111 r112)→K109 a s.w:=by
    intro start111 r112 a s L h
    unfold za.j8 at h
    show K109 a s.w
    refine hK109 _ _ (wp_seq_k fun K114 hK114=>?_)
    obtain ⟨h115,h⟩:=h
    refine rg (sx 147 (zb (o_t 19 J) J J) L fun a s _ L=>?_)
    refine sx 148 (t_sub (o_t 147 J) oI h115 J J) L fun a s _ L=>sx 22 (zd (o_t 148 J) J J) L fun a s _ L=>en' (hK114 _ _ ?_)
    refine wp_seq_k fun K116 hK116=>wp_block ?_
    have J118:∀(start117:Int) (a:Act) (s:St),Has (fun b=>v0.ownBlock=some b) 220 s0 a s [(0,(Pd.prow En.cls 51 v0 data_)),(1,(Pi a_)),(2,(Pi m_)),(3,(Pi b_)),(4,(Pd.rep EnF211 cmp_)),(18,(Pi i104)),(19,(Pi (i104+m_))),(20,(Pi start117))]→((za.j7 (za.n k_) data_ a_ m_ b_ cmp_ r_ i104) start117)→K116 a s.w:=by
     intro start117 a s L h
     unfold za.j7 at h
     show K116 a s.w
     refine hK116 _ _ (wp_seq_k fun K119 hK119=>?_)
     obtain ⟨h120,h⟩:=h
     refine rg (sx 175 (zb (o_t 19 J) J J) L fun a s _ L=>?_)
     refine sx 176 (zb (o_t 20 J) J J) L fun a s _ L=>sx 177 (t_sub (o_t 175 J) (o_t 176 J) h120 J J) L fun a s _ L=>sx 24 (zd (o_t 177 J) J J) L fun a s _ L=>en' (hK119 _ _ ?_)
     refine wp_seq_k fun K121 hK121=>wp_seq_k fun K122 hK122=>?_
     obtain ⟨b123,h124,h⟩:=h
     refine rg (sx 178 (zb (o_t 20 J) J J) L fun a s _ L=>?_)
     refine sx 179 (zb (o_t 2 J) J J) L fun a s _ L=>sx 180 (t_lss (o_t 178 J) (o_t 179 J) J J) L fun a s _ L=>sx 181 (zb (o_t 180 J) J J) L fun a s _ L=>sx 182 (t_g1 J J J (fun hc_=>zb (o_t 2 J) J J)) L fun a s _ L=>sx 183 (t_g1 J J J (fun hc_=>zb (o_t 24 J) J J)) L fun a s _ L=>sx 184 (t_g1 J J J (fun hc_=>t_lss (o_w hc_ 182 J) (o_w hc_ 183 J) J J)) L fun a s _ L=>sx 185 (h124 ▸ (t_and (o_t 181 J) (fun hc2_=>(o_w hc2_ 184 J)) J J)) L fun a s _ L=>en' (hK122 _ _ ?_)
     have J126:∀(data125:(List Cl)) (a:Act) (s:St),Has (fun b=>v0.ownBlock=some b) 220 s0 a s [(0,(Pd.prow En.cls 51 v0 data125)),(1,(Pi a_)),(3,(Pi b_)),(4,(Pd.rep EnF211 cmp_)),(18,(Pi i104)),(20,(Pi start117)),(24,(Pi ((i104+m_)-start117)))]→((za.j6 (za.n k_) a_ m_ b_ cmp_ r_ i104 start117) data125)→K121 a s.w:=by
      intro data125 a s L h
      unfold za.j6 at h
      show K121 a s.w
      refine hK121 _ _ (wp_seq_k fun K127 hK127=>?_)
      refine wp_seq_k fun K128 hK128=>?_
      obtain ⟨b129,h130,h⟩:=h
      refine rg (sx 192 (zb (o_t 1 J) J J) L fun a s _ L=>?_)
      refine sx 193 (zb (o_t 20 J) J J) L fun a s _ L=>sx 194 (t_lss (o_t 192 J) (o_t 193 J) J J) L fun a s _ L=>sx 195 (zb (o_t 194 J) J J) L fun a s _ L=>sx 196 (t_g1 J J J (fun hc_=>zb (o_t 20 J) J J)) L fun a s _ L=>sx 197 (t_g1 J J J (fun hc_=>zb (o_t 18 J) J J)) L fun a s _ L=>sx 198 (t_g1 J J J (fun hc_=>t_lss (o_w hc_ 196 J) (o_w hc_ 197 J) J J)) L fun a s _ L=>sx 199 (h130 ▸ (t_and (o_t 195 J) (fun hc2_=>(o_w hc2_ 198 J)) J J)) L fun a s _ L=>en' (hK128 _ _ ?_)
      have J132:∀(data131:(List Cl)) (a:Act) (s:St),Has (fun b=>v0.ownBlock=some b) 220 s0 a s [(0,(Pd.prow En.cls 51 v0 data131)),(3,(Pi b_)),(4,(Pd.rep EnF211 cmp_)),(18,(Pi i104)),(24,(Pi ((i104+m_)-start117)))]→((za.j5 (za.n k_) m_ b_ cmp_ r_ i104 start117) data131)→K127 a s.w:=by
       intro data131 a s L h
       unfold za.j5 at h
       show K127 a s.w
       refine hK127 _ _ (wp_seq_k fun K133 hK133=>?_)
       obtain ⟨b134,h135,h⟩:=h
       refine rg (sx 206 (zb (o_t 18 J) J J) L fun a s _ L=>?_)
       refine sx 207 (zb (o_t 24 J) J J) L fun a s _ L=>sx 208 (t_lss (o_t 206 J) (o_t 207 J) J J) L fun a s _ L=>sx 209 (zb (o_t 208 J) J J) L fun a s _ L=>sx 210 (t_g1 J J J (fun hc_=>zb (o_t 24 J) J J)) L fun a s _ L=>sx 211 (t_g1 J J J (fun hc_=>zb (o_t 3 J) J J)) L fun a s _ L=>sx 212 (t_g1 J J J (fun hc_=>t_lss (o_w hc_ 210 J) (o_w hc_ 211 J) J J)) L fun a s _ L=>sx 213 (h135 ▸ (t_and (o_t 209 J) (fun hc2_=>(o_w hc2_ 212 J)) J J)) L fun a s _ L=>en' (hK133 _ _ ?_)
       refine cnd L J (fun hb_=>?_) (fun hb_=>?_)
       ·obtain ⟨r136,h137,h⟩:=h.1 hb_
        refine rg (sx 214 (zb (o_t 0 J) J J) L fun a s _ L=>?_)
        refine sx 215 (zb (o_t 18 J) J J) L fun a s _ L=>sx 216 (zb (o_t 24 J) J J) L fun a s _ L=>sx 217 (zb (o_t 3 J) J J) L fun a s _ L=>sx 218 (zb (o_t 4 J) J J) L fun a s _ L=>zed (L':=[(0,(Pd.prow En.cls 51 v0 r136))]) 219 (fun v0=>ih_ v0 h137) L (fun b h=>h) (o_t 214 J) (zs:=[.tmp 215,.tmp 216,.tmp 217,.tmp 218]) (.cons (o_t 215 J) (.cons (o_t 216 J) (.cons (o_t 217 J) (.cons (o_t 218 J) .nil)))) J J J J (.turn (t:=0) J .nil) fun a s L=>?_
        refine en' ?_
        subst h
        exact retm J L (c:=0) J
       ·replace h:=h.2 hb_
        refine wp_skip ?_
        subst h
        exact retm J L (c:=0) J
      refine cnd L J (fun hb_=>?_) (fun hb_=>?_)
      ·obtain ⟨r138,h139,h⟩:=h.1 hb_
       refine rg (sx 200 (zb (o_t 0 J) J J) L fun a s _ L=>?_)
       refine sx 201 (zb (o_t 1 J) J J) L fun a s _ L=>sx 202 (zb (o_t 20 J) J J) L fun a s _ L=>sx 203 (zb (o_t 18 J) J J) L fun a s _ L=>sx 204 (zb (o_t 4 J) J J) L fun a s _ L=>zed (L':=[(0,(Pd.prow En.cls 51 v0 r138)),(3,(Pi b_)),(4,(Pd.rep EnF211 cmp_)),(18,(Pi i104)),(24,(Pi ((i104+m_)-start117)))]) 205 (fun v0=>ih_ v0 h139) L (fun b h=>h) (o_t 200 J) (zs:=[.tmp 201,.tmp 202,.tmp 203,.tmp 204]) (.cons (o_t 201 J) (.cons (o_t 202 J) (.cons (o_t 203 J) (.cons (o_t 204 J) .nil)))) J J J J (.turn (t:=0) J (.k 3 (.k 4 (.k 18 (.k 24 .nil))))) fun a s L=>?_
       refine en' ?_
       exact J132 r138 a s (L.keep (.cons (t:=0) J (fun _ _ h_=>h_) (.k 3 (.k 4 (.k 18 (.k 24 .nil)))))) h
      ·replace h:=h.2 hb_
       refine wp_skip ?_
       exact J132 data125 a s (L.keep (.cons (t:=0) J (fun _ _ h_=>h_) (.k 3 (.k 4 (.k 18 (.k 24 .nil)))))) h
     refine cnd L J (fun hb_=>?_) (fun hb_=>?_)
     ·obtain ⟨r140,h141,h⟩:=h.1 hb_
      refine rg (sx 186 (zb (o_t 0 J) J J) L fun a s _ L=>?_)
      refine sx 187 (zb (o_t 20 J) J J) L fun a s _ L=>sx 188 (zb (o_t 2 J) J J) L fun a s _ L=>sx 189 (zb (o_t 24 J) J J) L fun a s _ L=>sx 190 (zb (o_t 4 J) J J) L fun a s _ L=>zed (L':=[(0,(Pd.prow En.cls 51 v0 r140)),(1,(Pi a_)),(3,(Pi b_)),(4,(Pd.rep EnF211 cmp_)),(18,(Pi i104)),(20,(Pi start117)),(24,(Pi ((i104+m_)-start117)))]) 191 (fun v0=>zef v0 h141) L (fun b h=>h) (o_t 186 J) (zs:=[.tmp 187,.tmp 188,.tmp 189,.tmp 190]) (.cons (o_t 187 J) (.cons (o_t 188 J) (.cons (o_t 189 J) (.cons (o_t 190 J) .nil)))) J J J J (.turn (t:=0) J (.k 1 (.k 3 (.k 4 (.k 18 (.k 20 (.k 24 .nil))))))) fun a s L=>?_
      refine en' ?_
      exact J126 r140 a s (L.keep (.cons (t:=0) J (fun _ _ h_=>h_) (.k 1 (.k 3 (.k 4 (.k 18 (.k 20 (.k 24 .nil)))))))) h
     ·replace h:=h.2 hb_
      refine wp_skip ?_
      exact J126 data_ a s (L.keep (.cons (t:=0) J (fun _ _ h_=>h_) (.k 1 (.k 3 (.k 4 (.k 18 (.k 20 (.k 24 .nil)))))))) h
    obtain ⟨k144,h⟩:=h
    refine lpg (fun k145 a s=>∃(start142:Int) (r143:Int),Has (fun b=>v0.ownBlock=some b) 220 s0 a s [(0,(Pd.prow En.cls 51 v0 data_)),(1,(Pi a_)),(2,(Pi m_)),(3,(Pi b_)),(4,(Pd.rep EnF211 cmp_)),(18,(Pi i104)),(19,(Pi (i104+m_))),(20,(Pi start142)),(21,(Pi r143)),(22,(Pi ((i104+m_)-1)))]∧za.l5 data_ m_ cmp_ i104 (za.j7 (za.n k_) data_ a_ m_ b_ cmp_ r_ i104) k145 start142 r143) k144 ⟨start111,r112,L.keep (.cons (t:=0) J (fun _ _ h_=>h_) (.k 1 (.k 2 (.k 3 (.k 4 (.k 18 (.k 19 (.k 20 (.k 21 (.k 22 .nil)))))))))),h⟩ ?_
    rintro k145 a s ⟨start142,r143,L,h⟩ KL146 hKL146
    cases k145 with
    | zero=>exact h.elim
    | succ k145=>
    unfold za.l5 at h
    refine wp_seq_k fun K147 hK147=>wp_seq_k fun K148 hK148=>rg (sx 149 (zb (o_t 20 J) J J) L fun a s _ L=>?_)
    refine sx 150 (zb (o_t 21 J) J J) L fun a s _ L=>sx 151 (t_lss (o_t 149 J) (o_t 150 J) J J) L fun a s _ L=>en' (hK148 _ _ ?_)
    refine cnd L J (fun hb_=>?_) (fun hb_=>?_)
    ·replace h:=h.1 hb_
     refine wp_skip ?_
     show K147 a s.w
     refine hK147 _ _ (wp_block ?_)
     refine wp_seq_k fun K149 hK149=>?_
     obtain ⟨h150,i151,h152,h⟩:=h
     refine rg (sx 152 (zb (o_t 20 J) J J) L fun a s _ L=>?_)
     refine sx 153 (zb (o_t 21 J) J J) L fun a s _ L=>sx 154 (t_add (o_t 152 J) (o_t 153 J) h150 J J) L fun a s _ L=>sx 155 (t_cvt (o_t 154 J) Tryz.underlying3 Tryz.underlying133 J J) L fun a s _ L=>sx 156 (t_shr (o_t 155 J) (o_i (k:=.u64) (by decide)) (by decide) J J) L fun a s _ L=>sx 157 (h152 ▸ (t_cvt (o_t 156 J) Tryz.underlying133 Tryz.underlying3 J J)) L fun a s _ L=>sx 23 (zd (o_t 157 J) J J) L fun a s _ L=>en' (hK149 _ _ ?_)
     refine wp_seq_k fun K153 hK153=>?_
     obtain ⟨h154,e155,h156,e157,h158,r159,h160,h⟩:=h
     refine rda zbk 14 [(Pd.rep EnF211 cmp_),(Pd.prow En.cls 51 v0 data_),(Pi ((i104+m_)-1)),(Pi i151),(Pi (((i104+m_)-1)-i151)),(Pd.optr En.cls 0 v0.ownBlock ((((i104+m_)-1)-i151:Int).toNat*En.cls.sz) e155),(Pd.rep En.cls e155),(Pd.prow En.cls 51 v0 data_),(Pi i151),(Pd.optr En.cls 0 v0.ownBlock ((i151:Int).toNat*En.cls.sz) e157),(Pd.rep En.cls e157),(Pi r159),(Pd.rep En.bool (decide (r159<0))),(Pd.rep En.bool (!(decide (r159<0))))] L (by kernel_rfl) J J ?_ ?_
     ·refine AllT.cons (zb (o_t 4 J) J J) ?_
      refine AllT.cons (zb (o_t 0 J) J J) (AllT.cons (zb (o_t 22 J) J J) ?_)
      refine AllT.cons (zb (o_t 23 J) J J) (AllT.cons (t_sub (o_t 160 J) (o_t 161 J) h154 J J) ?_)
      refine AllT.cons (zbx (o_p (o_t 159 J)) (o_t 162 J) h156 Tryz.underlying36 ty51 J J) (AllT.cons (zt ty51 (o_t 163 J) J J) ?_)
      refine AllT.cons (zb (o_t 0 J) J J) (AllT.cons (zb (o_t 23 J) J J) ?_)
      refine AllT.cons (zbx (o_p (o_t 165 J)) (o_t 166 J) h158 Tryz.underlying36 ty51 J J) (AllT.cons (zt ty51 (o_t 167 J) J J) ?_)
      refine AllT.cons (t_callf (q:=(e155,e157,r159)) (o_t 158 J) h160 (xs:=[.tmp 164,.tmp 168]) (.cons (o_t 164 J) (.cons (o_t 168 J) .nil)) (fun _ _ _ h_=>h_) J J) (AllT.cons (t_lss (o_t 169 J) oI J J) ?_)
      refine AllT.cons (t_not (o_t 170 J) J J) ?_
      exact AllT.nil
     intro a s _ L
     refine en' (hK153 _ _ ?_)
     refine cnd L J (fun hb_=>?_) (fun hb_=>?_)
     ·obtain ⟨h161,h⟩:=h.1 hb_
      refine rg (sx 172 (zb (o_t 23 J) J J) L fun a s _ L=>?_)
      refine sx 173 (t_add (o_t 172 J) oI h161 J J) L fun a s _ L=>sx 20 (zd (o_t 173 J) J J) L fun a s _ L=>en' ?_
      exact hKL146 k145 a s (Nat.lt_succ_self _) ⟨(i151+1),r143,L.keep (.cons (t:=0) J (fun _ _ h_=>h_) (.k 1 (.k 2 (.k 3 (.k 4 (.k 18 (.k 19 (.k 20 (.k 21 (.k 22 .nil)))))))))),h⟩
     ·replace h:=h.2 hb_
      refine rg (sx 174 (zb (o_t 23 J) J J) L fun a s _ L=>?_)
      refine sx 21 (zd (o_t 174 J) J J) L fun a s _ L=>en' ?_
      exact hKL146 k145 a s (Nat.lt_succ_self _) ⟨start142,i151,L.keep (.cons (t:=0) J (fun _ _ h_=>h_) (.k 1 (.k 2 (.k 3 (.k 4 (.k 18 (.k 19 (.k 20 (.k 21 (.k 22 .nil)))))))))),h⟩
    ·replace h:=h.2 hb_
     refine wp_exit ?_
     exact J118 start142 a s (L.keep (.cons (t:=0) J (fun _ _ h_=>h_) (.k 1 (.k 2 (.k 3 (.k 4 (.k 18 (.k 19 (.k 20 .nil))))))))) h
   refine cnd L J (fun hb_=>?_) (fun hb_=>?_)
   ·replace h:=h.1 hb_
    refine wp_seq_k fun K162 hK162=>?_
    obtain ⟨h163,h⟩:=h
    refine rg (sx 141 (zb (o_t 19 J) J J) L fun a s _ L=>?_)
    refine sx 142 (zb (o_t 3 J) J J) L fun a s _ L=>sx 143 (t_sub (o_t 141 J) (o_t 142 J) h163 J J) L fun a s _ L=>sx 20 (zd (o_t 143 J) J J) L fun a s _ L=>en' (hK162 _ _ ?_)
    refine rg (sx 144 (zb (o_t 18 J) J J) L fun a s _ L=>?_)
    refine sx 21 (zd (o_t 144 J) J J) L fun a s _ L=>en' ?_
    exact J113 ((i104+m_)-b_) i104 a s (L.keep (.cons (t:=0) J (fun _ _ h_=>h_) (.k 1 (.k 2 (.k 3 (.k 4 (.k 18 (.k 19 (.k 20 (.k 21 .nil)))))))))) h
   ·replace h:=h.2 hb_
    refine wp_seq_k fun K164 hK164=>rg (sx 145 (zb (o_t 1 J) J J) L fun a s _ L=>?_)
    refine sx 20 (zd (o_t 145 J) J J) L fun a s _ L=>en' (hK164 _ _ ?_)
    refine rg (sx 146 (zb (o_t 2 J) J J) L fun a s _ L=>?_)
    refine sx 21 (zd (o_t 146 J) J J) L fun a s _ L=>en' ?_
    exact J113 a_ m_ a s (L.keep (.cons (t:=0) J (fun _ _ h_=>h_) (.k 1 (.k 2 (.k 3 (.k 4 (.k 18 (.k 19 (.k 20 (.k 21 .nil)))))))))) h
theorem zc2 (v0:Value) {data_:(List Cl)} {a_:Int} {m_:Int} {b_:Int} {cmp_:(Cl × Cl × Int→Prop)} {r_:(List Cl)} (h:za data_ a_ m_ b_ cmp_ r_):Fm Tryz.prog 186 (fun b=>v0.ownBlock=some b) [(Pd.prow En.cls 51 v0 data_),(Pi a_),(Pi m_),(Pi b_),(Pd.rep EnF211 cmp_)] (fun _ s' _=>(Pd.prow En.cls 51 v0 r_).p s' v0):=by
 obtain ⟨k_,h⟩:=h
 exact za.n_ok k_ v0 h
set_option maxRecDepth 100000
theorem zee (v0:Value) {data_:(List Cl)} {nv_:Int} {cmp_:(Cl × Cl × Int→Prop)} {r_:(List Cl)} (h:ze data_ nv_ cmp_ r_):Fm Tryz.prog 179 (fun b=>v0.ownBlock=some b) [(Pd.prow En.cls 51 v0 data_),(Pi nv_),(Pd.rep EnF211 cmp_)] (fun _ s' _=>(Pd.prow En.cls 51 v0 r_).p s' v0):=by
 unfold ze at h
 refine fm_of Tryz.func179 J Tryz.ntmps179 (by rfl) (by simp) fun s0 a L=>?_
 refine wp_seq_k fun K1 hK1=>rg (sx 6 (zd oI J J) L fun a s _ L=>?_)
 refine en' (hK1 _ _ ?_)
 refine wp_seq_k fun K2 hK2=>rg (sx 10 (zb (o_t 6 J) J J) L fun a s _ L=>?_)
 refine sx 7 (zd oI J J) L fun a s _ L=>sx 8 (zd (o_t 10 J) J J) L fun a s _ L=>en' (hK2 _ _ ?_)
 refine wp_seq_k fun K3 hK3=>wp_block ?_
 have J6:∀(data4:(List Cl)) (a5:Int) (a:Act) (s:St),Has (fun b=>v0.ownBlock=some b) 63 s0 a s [(0,(Pd.prow En.cls 51 v0 data4)),(1,(Pi nv_)),(2,(Pd.rep EnF211 cmp_)),(6,(Pi 20)),(7,(Pi a5))]→((ze.j3 nv_ cmp_ r_) data4 a5)→K3 a s.w:=by
  intro data4 a5 a s L h
  unfold ze.j3 at h
  show K3 a s.w
  refine hK3 _ _ (wp_seq_k fun K7 hK7=>?_)
  obtain ⟨r8,h9,h⟩:=h
  refine rg (sx 23 (zb (o_t 0 J) J J) L fun a s _ L=>?_)
  refine sx 24 (zb (o_t 7 J) J J) L fun a s _ L=>sx 25 (zb (o_t 1 J) J J) L fun a s _ L=>sx 26 (zb (o_t 2 J) J J) L fun a s _ L=>zed (L':=[(0,(Pd.prow En.cls 51 v0 r8)),(1,(Pi nv_)),(2,(Pd.rep EnF211 cmp_)),(6,(Pi 20))]) 27 (fun v0=>zcn v0 h9) L (fun b h=>h) (o_t 23 J) (zs:=[.tmp 24,.tmp 25,.tmp 26]) (.cons (o_t 24 J) (.cons (o_t 25 J) (.cons (o_t 26 J) .nil))) J J J J (.turn (t:=0) J (.k 1 (.k 2 (.k 6 .nil)))) fun a s L=>?_
  refine en' (hK7 _ _ ?_)
  refine wp_block ?_
  have J11:∀(data10:(List Cl)) (a:Act) (s:St),Has (fun b=>v0.ownBlock=some b) 63 s0 a s [(0,(Pd.prow En.cls 51 v0 data10))]→((ze.j1 r_) data10)→(bodyPost Tryz.prog Tryz.f179 (Pst (fun b=>v0.ownBlock=some b) (fun _ s' _=>(Pd.prow En.cls 51 v0 r_).p s' v0) s0) .normal) a s.w:=by
   intro data10 a s L h
   unfold ze.j1 at h
   subst h
   exact retm J L (c:=0) J
  obtain ⟨k14,h⟩:=h
  refine lpg (fun k15 a s=>∃(data12:(List Cl)) (blockSize13:Int),Has (fun b=>v0.ownBlock=some b) 63 s0 a s [(0,(Pd.prow En.cls 51 v0 data12)),(1,(Pi nv_)),(2,(Pd.rep EnF211 cmp_)),(6,(Pi blockSize13))]∧ze.l1 nv_ cmp_ (ze.j1 r_) k15 data12 blockSize13) k14 ⟨r8,20,L.keep (.cons (t:=0) J (fun _ _ h_=>h_) (.k 1 (.k 2 (.k 6 .nil)))),h⟩ ?_
  rintro k15 a s ⟨data12,blockSize13,L,h⟩ KL16 hKL16
  cases k15 with
  | zero=>exact h.elim
  | succ k15=>
  unfold ze.l1 at h
  refine wp_seq_k fun K17 hK17=>wp_seq_k fun K18 hK18=>rg (sx 28 (zb (o_t 6 J) J J) L fun a s _ L=>?_)
  refine sx 29 (zb (o_t 1 J) J J) L fun a s _ L=>sx 30 (t_lss (o_t 28 J) (o_t 29 J) J J) L fun a s _ L=>en' (hK18 _ _ ?_)
  refine cnd L J (fun hb_=>?_) (fun hb_=>?_)
  ·replace h:=h.1 hb_
   refine wp_skip ?_
   show K17 a s.w
   refine hK17 _ _ (wp_block ?_)
   refine wp_seq_k fun K19 hK19=>?_
   obtain ⟨h20,h⟩:=h
   refine rg (sx 31 (zb (o_t 6 J) J J) L fun a s _ L=>?_)
   refine sx 32 (t_mul oI (o_t 31 J) h20 J J) L fun a s _ L=>sx 7 (zd oI J J) L fun a s _ L=>sx 8 (zd (o_t 32 J) J J) L fun a s _ L=>en' (hK19 _ _ ?_)
   refine wp_seq_k fun K21 hK21=>wp_block ?_
   have J24:∀(data22:(List Cl)) (a23:Int) (a:Act) (s:St),Has (fun b=>v0.ownBlock=some b) 63 s0 a s [(0,(Pd.prow En.cls 51 v0 data22)),(1,(Pi nv_)),(2,(Pd.rep EnF211 cmp_)),(6,(Pi blockSize13)),(7,(Pi a23))]→((ze.j2 (ze.l1 nv_ cmp_ (ze.j1 r_) k15) nv_ cmp_ blockSize13) data22 a23)→K21 a s.w:=by
    intro data22 a23 a s L h
    unfold ze.j2 at h
    show K21 a s.w
    refine hK21 _ _ (wp_seq_k fun K25 hK25=>?_)
    refine wp_seq_k fun K26 hK26=>?_
    obtain ⟨h27,h⟩:=h
    refine rg (sx 49 (zb (o_t 7 J) J J) L fun a s _ L=>?_)
    refine sx 50 (zb (o_t 6 J) J J) L fun a s _ L=>sx 51 (t_add (o_t 49 J) (o_t 50 J) h27 J J) L fun a s _ L=>sx 9 (zd (o_t 51 J) J J) L fun a s _ L=>en' (hK26 _ _ ?_)
    refine wp_seq_k fun K28 hK28=>rg (sx 52 (zb (o_t 9 J) J J) L fun a s _ L=>?_)
    refine sx 53 (zb (o_t 1 J) J J) L fun a s _ L=>sx 54 (t_lss (o_t 52 J) (o_t 53 J) J J) L fun a s _ L=>en' (hK28 _ _ ?_)
    refine cnd L J (fun hb_=>?_) (fun hb_=>?_)
    ·obtain ⟨r29,h30,h⟩:=h.1 hb_
     refine rg (sx 55 (zb (o_t 0 J) J J) L fun a s _ L=>?_)
     refine sx 56 (zb (o_t 7 J) J J) L fun a s _ L=>sx 57 (zb (o_t 9 J) J J) L fun a s _ L=>sx 58 (zb (o_t 1 J) J J) L fun a s _ L=>sx 59 (zb (o_t 2 J) J J) L fun a s _ L=>zed (L':=[(0,(Pd.prow En.cls 51 v0 r29)),(1,(Pi nv_)),(2,(Pd.rep EnF211 cmp_)),(6,(Pi blockSize13))]) 60 (fun v0=>zc2 v0 h30) L (fun b h=>h) (o_t 55 J) (zs:=[.tmp 56,.tmp 57,.tmp 58,.tmp 59]) (.cons (o_t 56 J) (.cons (o_t 57 J) (.cons (o_t 58 J) (.cons (o_t 59 J) .nil)))) J J J J (.turn (t:=0) J (.k 1 (.k 2 (.k 6 .nil)))) fun a s L=>?_
     refine en' (hK25 _ _ ?_)
     obtain ⟨h31,h⟩:=h
     refine rg (sx 61 (zb (o_t 6 J) J J) L fun a s _ L=>?_)
     refine sx 62 (t_mul (o_t 61 J) oI h31 J J) L fun a s _ L=>sx 6 (zd (o_t 62 J) J J) L fun a s _ L=>en' ?_
     exact hKL16 k15 a s (Nat.lt_succ_self _) ⟨r29,(blockSize13*2),L.keep (.cons (t:=0) J (fun _ _ h_=>h_) (.k 1 (.k 2 (.k 6 .nil)))),h⟩
    ·replace h:=h.2 hb_
     refine wp_skip ?_
     show K25 a s.w
     refine hK25 _ _ ?_
     obtain ⟨h32,h⟩:=h
     refine rg (sx 61 (zb (o_t 6 J) J J) L fun a s _ L=>?_)
     refine sx 62 (t_mul (o_t 61 J) oI h32 J J) L fun a s _ L=>sx 6 (zd (o_t 62 J) J J) L fun a s _ L=>en' ?_
     exact hKL16 k15 a s (Nat.lt_succ_self _) ⟨data22,(blockSize13*2),L.keep (.cons (t:=0) J (fun _ _ h_=>h_) (.k 1 (.k 2 (.k 6 .nil)))),h⟩
   obtain ⟨k36,h⟩:=h
   refine lpg (fun k37 a s=>∃(data33:(List Cl)) (a34:Int) (b35:Int),Has (fun b=>v0.ownBlock=some b) 63 s0 a s [(0,(Pd.prow En.cls 51 v0 data33)),(1,(Pi nv_)),(2,(Pd.rep EnF211 cmp_)),(6,(Pi blockSize13)),(7,(Pi a34)),(8,(Pi b35))]∧ze.l2 nv_ cmp_ blockSize13 (ze.j2 (ze.l1 nv_ cmp_ (ze.j1 r_) k15) nv_ cmp_ blockSize13) k37 data33 a34 b35) k36 ⟨data12,0,(2*blockSize13),L.keep (.cons (t:=0) J (fun _ _ h_=>h_) (.k 1 (.k 2 (.k 6 (.k 7 (.k 8 .nil)))))),h⟩ ?_
   rintro k37 a s ⟨data33,a34,b35,L,h⟩ KL38 hKL38
   cases k37 with
   | zero=>exact h.elim
   | succ k37=>
   unfold ze.l2 at h
   refine wp_seq_k fun K39 hK39=>wp_seq_k fun K40 hK40=>rg (sx 33 (zb (o_t 8 J) J J) L fun a s _ L=>?_)
   refine sx 34 (zb (o_t 1 J) J J) L fun a s _ L=>sx 35 (t_leq (o_t 33 J) (o_t 34 J) J J) L fun a s _ L=>en' (hK40 _ _ ?_)
   refine cnd L J (fun hb_=>?_) (fun hb_=>?_)
   ·replace h:=h.1 hb_
    refine wp_skip ?_
    show K39 a s.w
    refine hK39 _ _ (wp_block ?_)
    refine wp_seq_k fun K41 hK41=>?_
    obtain ⟨h42,r43,h44,h⟩:=h
    refine rg (sx 36 (zb (o_t 0 J) J J) L fun a s _ L=>?_)
    refine sx 37 (zb (o_t 7 J) J J) L fun a s _ L=>sx 38 (zb (o_t 7 J) J J) L fun a s _ L=>sx 39 (zb (o_t 6 J) J J) L fun a s _ L=>sx 40 (t_add (o_t 38 J) (o_t 39 J) h42 J J) L fun a s _ L=>sx 41 (zb (o_t 8 J) J J) L fun a s _ L=>sx 42 (zb (o_t 2 J) J J) L fun a s _ L=>zed (L':=[(0,(Pd.prow En.cls 51 v0 r43)),(1,(Pi nv_)),(2,(Pd.rep EnF211 cmp_)),(6,(Pi blockSize13)),(8,(Pi b35))]) 43 (fun v0=>zc2 v0 h44) L (fun b h=>h) (o_t 36 J) (zs:=[.tmp 37,.tmp 40,.tmp 41,.tmp 42]) (.cons (o_t 37 J) (.cons (o_t 40 J) (.cons (o_t 41 J) (.cons (o_t 42 J) .nil)))) J J J J (.turn (t:=0) J (.k 1 (.k 2 (.k 6 (.k 8 .nil))))) fun a s L=>?_
    refine en' (hK41 _ _ ?_)
    refine wp_seq_k fun K45 hK45=>rg (sx 44 (zb (o_t 8 J) J J) L fun a s _ L=>?_)
    refine sx 7 (zd (o_t 44 J) J J) L fun a s _ L=>en' (hK45 _ _ ?_)
    obtain ⟨h46,h47,h⟩:=h
    refine rg (sx 45 (zb (o_t 8 J) J J) L fun a s _ L=>?_)
    refine sx 46 (zb (o_t 6 J) J J) L fun a s _ L=>sx 47 (t_mul oI (o_t 46 J) h46 J J) L fun a s _ L=>sx 48 (t_add (o_t 45 J) (o_t 47 J) h47 J J) L fun a s _ L=>sx 8 (zd (o_t 48 J) J J) L fun a s _ L=>en' ?_
    exact hKL38 k37 a s (Nat.lt_succ_self _) ⟨r43,b35,(b35+(2*blockSize13)),L.keep (.cons (t:=0) J (fun _ _ h_=>h_) (.k 1 (.k 2 (.k 6 (.k 7 (.k 8 .nil)))))),h⟩
   ·replace h:=h.2 hb_
    refine wp_exit ?_
    exact J24 data33 a34 a s (L.keep (.cons (t:=0) J (fun _ _ h_=>h_) (.k 1 (.k 2 (.k 6 (.k 7 .nil)))))) h
  ·replace h:=h.2 hb_
   refine wp_exit ?_
   exact J11 data12 a s (L.keep (.cons (t:=0) J (fun _ _ h_=>h_) .nil)) h
 obtain ⟨k51,h⟩:=h
 refine lpg (fun k52 a s=>∃(data48:(List Cl)) (a49:Int) (b50:Int),Has (fun b=>v0.ownBlock=some b) 63 s0 a s [(0,(Pd.prow En.cls 51 v0 data48)),(1,(Pi nv_)),(2,(Pd.rep EnF211 cmp_)),(6,(Pi 20)),(7,(Pi a49)),(8,(Pi b50))]∧ze.l3 nv_ cmp_ (ze.j3 nv_ cmp_ r_) k52 data48 a49 b50) k51 ⟨data_,0,20,L.keep (.cons (t:=0) J (fun _ _ h_=>h_) (.k 1 (.k 2 (.k 6 (.k 7 (.k 8 .nil)))))),h⟩ ?_
 rintro k52 a s ⟨data48,a49,b50,L,h⟩ KL53 hKL53
 cases k52 with
 | zero=>exact h.elim
 | succ k52=>
 unfold ze.l3 at h
 refine wp_seq_k fun K54 hK54=>wp_seq_k fun K55 hK55=>rg (sx 11 (zb (o_t 8 J) J J) L fun a s _ L=>?_)
 refine sx 12 (zb (o_t 1 J) J J) L fun a s _ L=>sx 13 (t_leq (o_t 11 J) (o_t 12 J) J J) L fun a s _ L=>en' (hK55 _ _ ?_)
 refine cnd L J (fun hb_=>?_) (fun hb_=>?_)
 ·replace h:=h.1 hb_
  refine wp_skip ?_
  show K54 a s.w
  refine hK54 _ _ (wp_block ?_)
  refine wp_seq_k fun K56 hK56=>?_
  obtain ⟨r57,h58,h⟩:=h
  refine rg (sx 14 (zb (o_t 0 J) J J) L fun a s _ L=>?_)
  refine sx 15 (zb (o_t 7 J) J J) L fun a s _ L=>sx 16 (zb (o_t 8 J) J J) L fun a s _ L=>sx 17 (zb (o_t 2 J) J J) L fun a s _ L=>zed (L':=[(0,(Pd.prow En.cls 51 v0 r57)),(1,(Pi nv_)),(2,(Pd.rep EnF211 cmp_)),(6,(Pi 20)),(8,(Pi b50))]) 18 (fun v0=>zcn v0 h58) L (fun b h=>h) (o_t 14 J) (zs:=[.tmp 15,.tmp 16,.tmp 17]) (.cons (o_t 15 J) (.cons (o_t 16 J) (.cons (o_t 17 J) .nil))) J J J J (.turn (t:=0) J (.k 1 (.k 2 (.k 6 (.k 8 .nil))))) fun a s L=>?_
  refine en' (hK56 _ _ ?_)
  refine wp_seq_k fun K59 hK59=>rg (sx 19 (zb (o_t 8 J) J J) L fun a s _ L=>?_)
  refine sx 7 (zd (o_t 19 J) J J) L fun a s _ L=>en' (hK59 _ _ ?_)
  obtain ⟨h60,h⟩:=h
  refine rg (sx 20 (zb (o_t 8 J) J J) L fun a s _ L=>?_)
  refine sx 21 (zb (o_t 6 J) J J) L fun a s _ L=>sx 22 (t_add (o_t 20 J) (o_t 21 J) h60 J J) L fun a s _ L=>sx 8 (zd (o_t 22 J) J J) L fun a s _ L=>en' ?_
  exact hKL53 k52 a s (Nat.lt_succ_self _) ⟨r57,b50,(b50+20),L.keep (.cons (t:=0) J (fun _ _ h_=>h_) (.k 1 (.k 2 (.k 6 (.k 7 (.k 8 .nil)))))),h⟩
 ·replace h:=h.2 hb_
  refine wp_exit ?_
  exact J6 data48 a49 a s (L.keep (.cons (t:=0) J (fun _ _ h_=>h_) (.k 1 (.k 2 (.k 6 (.k 7 .nil)))))) h
theorem zde (v0:Value) {x_:(List Cl)} {cmp_:(Cl × Cl × Int→Prop)} {r_:(List Cl)} (h:zbe x_ cmp_ r_):Fm Tryz.prog 166 (fun b=>v0.ownBlock=some b) [(Pd.prow En.cls 51 v0 x_),(Pd.rep EnF211 cmp_)] (fun _ s' _=>(Pd.prow En.cls 51 v0 r_).p s' v0):=by
 unfold zbe at h
 refine fm_of Tryz.func166 J Tryz.ntmps166 (by rfl) (by simp) fun s0 a L=>?_
 obtain ⟨r1,h2,h⟩:=h
 refine rg (sx 4 (zb (o_t 0 J) J J) L fun a s _ L=>?_)
 refine sx 5 (zb (o_t 0 J) J J) L fun a s _ L=>sx 6 (t_leno (o_p (o_t 5 J)) Tryz.underlying36 J J) L fun a s _ L=>sx 7 (zb (o_t 1 J) J J) L fun a s _ L=>zed (L':=[(0,(Pd.prow En.cls 51 v0 r1))]) 8 (fun v0=>zee v0 h2) L (fun b h=>h) (o_t 4 J) (zs:=[.tmp 6,.tmp 7]) (.cons (o_t 6 J) (.cons (o_t 7 J) .nil)) J J J J (.turn (t:=0) J .nil) fun a s L=>?_
 refine en' ?_
 subst h
 exact retm J L (c:=0) J
def class_Has (a_:Cl) (cv_:Int) (r_:Bool):Prop:=(0≤(cv_ / 64)∧(cv_ / 64)<4)∧∃b4:Bool,b4=((andI (shrI (Cl.w a_ (cv_ / 64)) (cv_ % 64)) 1)==1)∧r_=b4
def zbo.j1 (r_:Cl) (a8:Cl):Prop:=r_=a8
def zbo.j2 (L1_:Cl→Int→Prop) (w13:Int) (a23:Cl):Prop:=(InR .i64 (w13+1))∧L1_ a23 (w13+1)
def zbo.l2 (l_:(List Bool)) (w13:Int) (X2:Cl→Prop):Nat→Cl→Int→Int→Prop
 | 0,_,_,_=>False
 | k_0+1,a27,bit28,i29=>((decide (i29<64))=true→(InR .i64 (64*w13))∧(InR .i64 ((64*w13)+i29))∧∃e41:Bool,at? l_ ((64*w13)+i29)=some e41∧((e41)=true→(0≤w13∧w13<4)∧(0≤w13∧w13<4)∧(InR .i64 (i29+1))∧zbo.l2 l_ w13 X2 k_0 (Cl.setw a27 w13 (IntKind.wrap .u64 ((Cl.w a27 w13)+bit28))) (IntKind.wrap .u64 (bit28*2)) (i29+1))∧((e41)=false→(InR .i64 (i29+1))∧zbo.l2 l_ w13 X2 k_0 a27 (IntKind.wrap .u64 (bit28*2)) (i29+1)))∧((decide (i29<64))=false→X2 a27)
def zbo.l1 (l_:(List Bool)) (X1:Cl→Prop):Nat→Cl→Int→Prop
 | 0,_,_=>False
 | k_0+1,a12,w13=>((decide (w13<4))=true→∃k30,zbo.l2 l_ w13 (zbo.j2 (zbo.l1 l_ X1 k_0) w13) k30 a12 1 0)∧((decide (w13<4))=false→X1 a12)
def zbo (l_:(List Bool)) (r_:Cl):Prop:=∃k14,zbo.l1 l_ (zbo.j1 r_) k14 (0#256) 0
def zco.j1 (r_:Cl) (l8:(List Bool)):Prop:=∃r15:Cl,zbo l8 r15∧r_=r15
def zco.l1 (to_:Int) (X1:(List Bool)→Prop):Nat→(List Bool)→Int→Prop
 | 0,_,_=>False
 | k_0+1,l17,i19=>((decide (i19≤to_))=true→∃e27:Bool,at? l17 i19=some e27∧(InR .i64 (i19+1))∧zco.l1 to_ X1 k_0 (l17.set (i19:Int).toNat true) (i19+1))∧((decide (i19≤to_))=false→X1 l17)
def zco (from_:Int) (to_:Int) (r_:Cl):Prop:=∃k20,zco.l1 to_ (zco.j1 r_) k20 (List.replicate 256 false) from_
def zcz.j1 (r_:Cl) (a7:Cl):Prop:=r_=a7
def zcz.l1 (list_:(List Int)) (X1:Cl→Prop):Nat→Cl→Int→Prop
 | 0,_,_=>False
 | k_0+1,a11,v12=>((decide (v12<(list_.length:Int)))=true→∃e21:Int,at? list_ v12=some e21∧(0≤(e21 / 64)∧(e21 / 64)<4)∧(0≤(e21 / 64)∧(e21 / 64)<4)∧(InR .i64 (v12+1))∧zcz.l1 list_ X1 k_0 (Cl.setw a11 (e21 / 64) (orI (Cl.w a11 (e21 / 64)) (shlI 1 (e21 % 64)))) (v12+1))∧((decide (v12<(list_.length:Int)))=false→X1 a11)
def zcz (a_:Cl) (list_:(List Int)) (r_:Cl):Prop:=∃k13,zcz.l1 list_ (zcz.j1 r_) k13 a_ 0
def zda.j1 (r_:Cl) (a8:Cl):Prop:=r_=a8
def zda.l1 (from_:Int) (to_:Int) (X1:Cl→Prop):Nat→Cl→Int→Prop
 | 0,_,_=>False
 | k_0+1,a12,v13=>((decide (v13<256))=true→∃b24:Bool,b24=((decide (from_≤v13 % 256))&&(decide (v13 % 256≤to_)))∧((b24)=true→∃r26:Cl,zcz a12 [v13 % 256] r26∧(InR .i64 (v13+1))∧zda.l1 from_ to_ X1 k_0 r26 (v13+1))∧((b24)=false→(InR .i64 (v13+1))∧zda.l1 from_ to_ X1 k_0 a12 (v13+1)))∧((decide (v13<256))=false→X1 a12)
def zda (from_:Int) (to_:Int) (r_:Cl):Prop:=∃k14,zda.l1 from_ to_ (zda.j1 r_) k14 (0#256) 0
def zcy.j1 (r_:Cl) (a7:Cl):Prop:=r_=a7
def zcy.l1 (X1:Cl→Prop):Nat→Cl→Int→Prop
 | 0,_,_=>False
 | k_0+1,a11,v12=>((decide (v12<4))=true→(0≤v12∧v12<4)∧(0≤v12∧v12<4)∧(InR .i64 (v12+1))∧zcy.l1 X1 k_0 (Cl.setw a11 v12 (xorI 18446744073709551615 (Cl.w a11 v12))) (v12+1))∧((decide (v12<4))=false→X1 a11)
def zcy (a_:Cl) (r_:Cl):Prop:=∃k13,zcy.l1 (zcy.j1 r_) k13 a_ 0
def zcj.j1 (r_:Cl) (a7:Cl):Prop:=r_=a7
def zcj.l1 (b_:Cl) (X1:Cl→Prop):Nat→Cl→Int→Prop
 | 0,_,_=>False
 | k_0+1,a11,v12=>((decide (v12<4))=true→(0≤v12∧v12<4)∧(0≤v12∧v12<4)∧(0≤v12∧v12<4)∧(InR .i64 (v12+1))∧zcj.l1 b_ X1 k_0 (Cl.setw a11 v12 (andI (Cl.w a11 v12) (Cl.w b_ v12))) (v12+1))∧((decide (v12<4))=false→X1 a11)
def zcj (a_:Cl) (b_:Cl) (r_:Cl):Prop:=∃k13,zcj.l1 b_ (zcj.j1 r_) k13 a_ 0
def zb3.j1 (r_:Int) (n5:Int):Prop:=r_=n5
def zb3.l1 (a_:Cl) (X1:Int→Prop):Nat→Int→Int→Prop
 | 0,_,_=>False
 | k_0+1,n8,v9=>((decide (v9<256))=true→∃r18:Bool,class_Has a_ (v9 % 256) r18∧((r18)=true→(InR .i64 (n8+1))∧(InR .i64 (v9+1))∧zb3.l1 a_ X1 k_0 (n8+1) (v9+1))∧((r18)=false→(InR .i64 (v9+1))∧zb3.l1 a_ X1 k_0 n8 (v9+1)))∧((decide (v9<256))=false→X1 n8)
def zb3 (a_:Cl) (r_:Int):Prop:=∃k10,zb3.l1 a_ (zb3.j1 r_) k10 0 0
def zbv.j1 (r_:(Int × Bool)):Prop:=r_=(0,false)
def zbv.l1 (a_:Cl) (r_:(Int × Bool)) (X1:Prop):Nat→Int→Prop
 | 0,_=>False
 | k_0+1,v6=>((decide (v6<256))=true→∃r15:Bool,class_Has a_ (v6 % 256) r15∧((r15)=true→r_=(v6 % 256,true))∧((r15)=false→(InR .i64 (v6+1))∧zbv.l1 a_ r_ X1 k_0 (v6+1)))∧((decide (v6<256))=false→X1)
def zbv (a_:Cl) (r_:(Int × Bool)):Prop:=∃k7,zbv.l1 a_ r_ (zbv.j1 r_) k7 0
def zcp.j1 (r_:Bool) (w7:Int):Prop:=r_=((w7 % 2)==1)
def zcp.l1 (cv_:Int) (X1:Int→Prop):Nat→Int→Int→Prop
 | 0,_,_=>False
 | k_0+1,w10,i11=>(0≤cv_)∧((decide (i11<cv_ % 64))=true→(InR .i64 (i11+1))∧zcp.l1 cv_ X1 k_0 (w10 / 2) (i11+1))∧((decide (i11<cv_ % 64))=false→X1 w10)
def zcp (a_:Cl) (cv_:Int) (r_:Bool):Prop:=(0≤cv_)∧(0≤(cv_ / 64)∧(cv_ / 64)<4)∧∃k12,zcp.l1 cv_ (zcp.j1 r_) k12 (Cl.w a_ (cv_ / 64)) 0
set_option maxRecDepth 100000
theorem class_Has_ok {a_:Cl} {cv_:Int} {r_:Bool} (h:class_Has a_ cv_ r_):Fn Tryz.prog 137 [(Pd.rep En.cls a_),(Pd.rep (En.int .u8) cv_)] (Rq (Pd.rep En.bool r_)):=by
 unfold class_Has at h
 refine fn_of Tryz.func137 J Tryz.ntmps137 (by rfl) (by simp) fun s0 a L=>?_
 refine wp_seq_k fun K1 hK1=>rg (sx 2 (t_box (o_t 0 J) J J) L fun a s _ L=>?_)
 refine sx 4 (zd o_b J J) L fun a s _ L=>en' (hK1 _ _ ?_)
 refine wp_seq_k fun K2 hK2=>?_
 obtain ⟨h3,b4,h5,h⟩:=h
 refine rg (sx 5 (zb (o_t 1 J) J J) L fun a s _ L=>?_)
 refine sx 6 (t_quou (o_t 5 J) (o_i (k:=.u8) (by decide)) (by decide) (by decide) J J) L fun a s _ L=>sx 7 (t_idxc (o_t 2 J) (o_t 6 J) h3 Tryz.underlying51 (by rfl) J J) L fun a s _ L=>sx 8 (zo ty49 (o_t 7 J) J J) L fun a s _ L=>sx 9 (zb (o_t 1 J) J J) L fun a s _ L=>sx 10 (t_remu (o_t 9 J) (o_i (k:=.u8) (by decide)) (by decide) (by decide) J J) L fun a s _ L=>sx 11 (t_shr (o_t 8 J) (o_t 10 J) (by decide) J J) L fun a s _ L=>sx 12 (t_andb (o_t 11 J) (o_i (k:=.u64) (by decide)) J J) L fun a s _ L=>sx 13 (h5 ▸ (t_eqi (o_t 12 J) (o_i (k:=.u64) (by decide)) J J)) L fun a s _ L=>sx 4 (zd (o_t 13 J) J J) L fun a s _ L=>?_
 refine en' (hK2 _ _ ?_)
 subst h
 exact wp_ret (retq J L J)
theorem ref01_Of_ok {l_:(List Bool)} {r_:Cl} (h:zbo l_ r_):Fn Tryz.prog 83 [(Pd.rep (En.slice En.bool) l_)] (Rq (Pd.rep En.cls r_)):=by
 unfold zbo at h
 refine fn_of Tryz.func83 J Tryz.ntmps83 (by rfl) (by simp) fun s0 a L=>?_
 refine wp_seq_k fun K1 hK1=>rg (zbb En.cls (z:=(0#256)) 2 L tyz51 J J J J fun a s g2 hg_ L=>?_)
 refine en' (hK1 _ _ ?_)
 refine wp_seq_k fun K3 hK3=>rg ?_
 have lt_d5:=L.blt 2 rfl
 refine zbb En.cls (z:=(0#256)) 3 L tyz51 J J J J fun a s g4 hg_ L=>?_
 have d5:Dis (some g4) (some g2):=Dis.newg hg_ lt_d5
 refine en' (hK3 _ _ ?_)
 refine wp_seq_k fun K6 hK6=>wp_seq_k fun K7 hK7=>rg (sx 4 (zd oI J J) L fun a s _ L=>?_)
 refine en' (hK7 _ _ ?_)
 refine wp_block ?_
 have J9:∀(a8:Cl) (a:Act) (s:St),Has N0 32 s0 a s [(2,(Pd.box En.cls s0.w.heap.size g2 (0#256))),(3,(Pd.box En.cls s0.w.heap.size g4 a8))]→Dis (some g2) (some g4)→((zbo.j1 r_) a8)→K6 a s.w:=by
  intro a8 a s L d10 h
  unfold zbo.j1 at h
  show K6 a s.w
  refine hK6 _ _ (wp_seq_k fun K11 hK11=>?_)
  refine rg (sx 31 (zbh ty51 (o_t 3 J) J J) L fun a s _ L=>?_)
  refine zca (L':=[]) 2 L J (o_t 31 J) ty51 J J J .nil fun s L=>?_
  refine en' (hK11 _ _ ?_)
  subst h
  exact wp_ret (retb J ty51 L J)
 obtain ⟨k14,h⟩:=h
 refine lpg (fun k15 a s=>∃(a12:Cl) (w13:Int),Has N0 32 s0 a s [(0,(Pd.rep (En.slice En.bool) l_)),(2,(Pd.box En.cls s0.w.heap.size g2 (0#256))),(3,(Pd.box En.cls s0.w.heap.size g4 a12)),(4,(Pi w13))]∧Dis (some g2) (some g4)∧zbo.l1 l_ (zbo.j1 r_) k15 a12 w13) k14 ⟨(0#256),0,L.keep (.k 0 (.cons (t:=2) J (fun _ _ h_=>h_) (.cons (t:=3) J (fun _ _ h_=>h_) (.k 4 .nil)))),(Dis.symm d5),h⟩ ?_
 rintro k15 a s ⟨a12,w13,L,d17,h⟩ KL16 hKL16
 cases k15 with
 | zero=>exact h.elim
 | succ k15=>
 unfold zbo.l1 at h
 refine wp_seq_k fun K18 hK18=>wp_seq_k fun K19 hK19=>rg (sx 7 (zb (o_t 4 J) J J) L fun a s _ L=>?_)
 refine sx 8 (t_lss (o_t 7 J) oI J J) L fun a s _ L=>en' (hK19 _ _ ?_)
 refine cnd L J (fun hb_=>?_) (fun hb_=>?_)
 ·replace h:=h.1 hb_
  refine wp_skip ?_
  show K18 a s.w
  refine hK18 _ _ (wp_seq_k fun K20 hK20=>?_)
  refine wp_block (wp_seq_k fun K21 hK21=>?_)
  refine rg (sx 5 (zd (o_i (k:=.u64) (by decide)) J J) L fun a s _ L=>?_)
  refine en' (hK21 _ _ ?_)
  refine wp_seq_k fun K22 hK22=>rg (sx 6 (zd oI J J) L fun a s _ L=>?_)
  refine en' (hK22 _ _ ?_)
  refine wp_block ?_
  have J24:∀(a23:Cl) (a:Act) (s:St),Has N0 32 s0 a s [(0,(Pd.rep (En.slice En.bool) l_)),(2,(Pd.box En.cls s0.w.heap.size g2 (0#256))),(3,(Pd.box En.cls s0.w.heap.size g4 a23)),(4,(Pi w13))]→Dis (some g2) (some g4)→((zbo.j2 (zbo.l1 l_ (zbo.j1 r_) k15) w13) a23)→K20 a s.w:=by
   intro a23 a s L d25 h
   unfold zbo.j2 at h
   show K20 a s.w
   refine hK20 _ _ ?_
   obtain ⟨h26,h⟩:=h
   refine rg (sx 9 (zb (o_t 4 J) J J) L fun a s _ L=>?_)
   refine sx 10 (t_add (o_t 9 J) oI h26 J J) L fun a s _ L=>sx 4 (zd (o_t 10 J) J J) L fun a s _ L=>en' ?_
   exact hKL16 k15 a s (Nat.lt_succ_self _) ⟨a23,(w13+1),L.keep (.k 0 (.cons (t:=2) J (fun _ _ h_=>h_) (.cons (t:=3) J (fun _ _ h_=>h_) (.k 4 .nil)))),d25,h⟩
  obtain ⟨k30,h⟩:=h
  refine lpg (fun k31 a s=>∃(a27:Cl) (bit28:Int) (i29:Int),Has N0 32 s0 a s [(0,(Pd.rep (En.slice En.bool) l_)),(2,(Pd.box En.cls s0.w.heap.size g2 (0#256))),(3,(Pd.box En.cls s0.w.heap.size g4 a27)),(4,(Pi w13)),(5,(Pd.rep (En.int .u64) bit28)),(6,(Pi i29))]∧Dis (some g2) (some g4)∧zbo.l2 l_ w13 (zbo.j2 (zbo.l1 l_ (zbo.j1 r_) k15) w13) k31 a27 bit28 i29) k30 ⟨a12,1,0,L.keep (.k 0 (.cons (t:=2) J (fun _ _ h_=>h_) (.cons (t:=3) J (fun _ _ h_=>h_) (.k 4 (.k 5 (.k 6 .nil)))))),d17,h⟩ ?_
  rintro k31 a s ⟨a27,bit28,i29,L,d33,h⟩ KL32 hKL32
  cases k31 with
  | zero=>exact h.elim
  | succ k31=>
  unfold zbo.l2 at h
  refine wp_seq_k fun K34 hK34=>wp_seq_k fun K35 hK35=>rg (sx 11 (zb (o_t 6 J) J J) L fun a s _ L=>?_)
  refine sx 12 (t_lss (o_t 11 J) oI J J) L fun a s _ L=>en' (hK35 _ _ ?_)
  refine cnd L J (fun hb_=>?_) (fun hb_=>?_)
  ·replace h:=h.1 hb_
   refine wp_skip ?_
   show K34 a s.w
   refine hK34 _ _ (wp_seq_k fun K36 hK36=>?_)
   refine wp_block (wp_seq_k fun K37 hK37=>?_)
   refine wp_seq_k fun K38 hK38=>?_
   obtain ⟨h39,h40,e41,h42,h⟩:=h
   refine rg (sx 15 (zb (o_t 0 J) J J) L fun a s _ L=>?_)
   refine sx 16 (zb (o_t 4 J) J J) L fun a s _ L=>sx 17 (t_mul oI (o_t 16 J) h39 J J) L fun a s _ L=>sx 18 (zb (o_t 6 J) J J) L fun a s _ L=>sx 19 (t_add (o_t 17 J) (o_t 18 J) h40 J J) L fun a s _ L=>sx 20 (t_idx (o_t 15 J) (o_t 19 J) h42 Tryz.underlying119 ty4 J J) L fun a s _ L=>sx 21 (zo ty4 (o_t 20 J) J J) L fun a s _ L=>en' (hK38 _ _ ?_)
   refine cnd L J (fun hb_=>?_) (fun hb_=>?_)
   ·obtain ⟨h43,h44,h⟩:=h.1 hb_
    refine rg (sx 22 (zb (o_t 4 J) J J) L fun a s _ L=>?_)
    refine sx 23 (zb (o_t 4 J) J J) L fun a s _ L=>sx 24 (t_idxcb (o_t 3 J) (o_t 23 J) h43 Tryz.underlying51 (by rfl) J J) L fun a s _ L=>sx 25 (zt ty49 (o_t 24 J) J J) L fun a s _ L=>sx 26 (zb (o_t 5 J) J J) L fun a s _ L=>sx 27 (t_addw (o_t 25 J) (o_t 26 J) J J) L fun a s _ L=>sx 28 (t_idxcb (o_t 3 J) (o_t 22 J) h44 Tryz.underlying51 (by rfl) J J) L fun a s _ L=>zdp (L':=[(0,(Pd.rep (En.slice En.bool) l_)),(2,(Pd.box En.cls s0.w.heap.size g2 (0#256))),(4,(Pi w13)),(5,(Pd.rep (En.int .u64) bit28)),(6,(Pi i29))]) 3 L J (o_t 28 J) (o_t 27 J) (sub_cls h44) ty49 J J J (.k 0 (.cons (t:=2) J (Dis.bx d33) (.k 4 (.k 5 (.k 6 .nil))))) fun s L=>?_
    refine en' (hK37 _ _ ?_)
    refine rg (sx 29 (zb (o_t 5 J) J J) L fun a s _ L=>?_)
    refine sx 30 (t_mulw (o_t 29 J) (o_i (k:=.u64) (by decide)) J J) L fun a s _ L=>sx 5 (zd (o_t 30 J) J J) L fun a s _ L=>en' (hK36 _ _ ?_)
    obtain ⟨h45,h⟩:=h
    refine rg (sx 13 (zb (o_t 6 J) J J) L fun a s _ L=>?_)
    refine sx 14 (t_add (o_t 13 J) oI h45 J J) L fun a s _ L=>sx 6 (zd (o_t 14 J) J J) L fun a s _ L=>en' ?_
    exact hKL32 k31 a s (Nat.lt_succ_self _) ⟨(Cl.setw a27 w13 (IntKind.wrap .u64 ((Cl.w a27 w13)+bit28))),(IntKind.wrap .u64 (bit28*2)),(i29+1),L.keep (.k 0 (.cons (t:=2) J (fun _ _ h_=>h_) (.cons (t:=3) J (fun _ _ h_=>h_) (.k 4 (.k 5 (.k 6 .nil)))))),d33,h⟩
   ·replace h:=h.2 hb_
    refine wp_skip ?_
    show K37 a s.w
    refine hK37 _ _ (rg ?_)
    refine sx 29 (zb (o_t 5 J) J J) L fun a s _ L=>sx 30 (t_mulw (o_t 29 J) (o_i (k:=.u64) (by decide)) J J) L fun a s _ L=>sx 5 (zd (o_t 30 J) J J) L fun a s _ L=>en' (hK36 _ _ ?_)
    obtain ⟨h46,h⟩:=h
    refine rg (sx 13 (zb (o_t 6 J) J J) L fun a s _ L=>?_)
    refine sx 14 (t_add (o_t 13 J) oI h46 J J) L fun a s _ L=>sx 6 (zd (o_t 14 J) J J) L fun a s _ L=>en' ?_
    exact hKL32 k31 a s (Nat.lt_succ_self _) ⟨a27,(IntKind.wrap .u64 (bit28*2)),(i29+1),L.keep (.k 0 (.cons (t:=2) J (fun _ _ h_=>h_) (.cons (t:=3) J (fun _ _ h_=>h_) (.k 4 (.k 5 (.k 6 .nil)))))),d33,h⟩
  ·replace h:=h.2 hb_
   refine wp_exit ?_
   exact J24 a27 a s (L.keep (.k 0 (.cons (t:=2) J (fun _ _ h_=>h_) (.cons (t:=3) J (fun _ _ h_=>h_) (.k 4 .nil))))) d33 h
 ·replace h:=h.2 hb_
  refine wp_exit ?_
  exact J9 a12 a s (L.keep (.cons (t:=2) J (fun _ _ h_=>h_) (.cons (t:=3) J (fun _ _ h_=>h_) .nil))) d17 h
theorem ref01_Row_ok {from_:Int} {to_:Int} {r_:Cl} (h:zco from_ to_ r_):Fn Tryz.prog 47 [(Pd.rep (En.int .u8) from_),(Pd.rep (En.int .u8) to_)] (Rq (Pd.rep En.cls r_)):=by
 unfold zco at h
 refine fn_of Tryz.func47 J Tryz.ntmps47 (by rfl) (by simp) fun s0 a L=>?_
 refine wp_seq_k fun K1 hK1=>rg (zbb En.cls (z:=(0#256)) 4 L tyz51 J J J J fun a s g2 hg_ L=>?_)
 refine en' (hK1 _ _ ?_)
 refine wp_seq_k fun K3 hK3=>rg ?_
 have lt_d5:=L.blt 4 rfl
 refine st_make En.bool (z:=false) (m:=256) 7 L oI oI (by decide) Tryz.underlying119 ty4 tyz4 J J J J fun a s g4 hg_ L=>?_
 have d5:Dis (some g4) (some g2):=Dis.newg hg_ lt_d5
 refine sx 5 (zd (o_t 7 J) J J) L fun a s _ L=>en' (hK3 _ _ ?_)
 refine wp_seq_k fun K6 hK6=>wp_seq_k fun K7 hK7=>rg (sx 8 (zb (o_t 0 J) J J) L fun a s _ L=>?_)
 refine sx 9 (t_up (o_t 8 J) (by decide) Tryz.underlying5 Tryz.underlying3 J J) L fun a s _ L=>sx 6 (zd (o_t 9 J) J J) L fun a s _ L=>en' (hK7 _ _ ?_)
 refine wp_block ?_
 have J10:∀(l8:(List Bool)) (og9:Option Nat) (a:Act) (s:St),Has N0 21 s0 a s [(4,(Pd.box En.cls s0.w.heap.size g2 (0#256))),(5,(Pd.row En.bool s0.w.heap.size 4 og9 l8))]→Dis (some g2) og9→((zco.j1 r_) l8)→K6 a s.w:=by
  intro l8 og9 a s L d11 h
  unfold zco.j1 at h
  show K6 a s.w
  refine hK6 _ _ (wp_seq_k fun K12 hK12=>?_)
  obtain ⟨s14,h13,L⟩:=L.freeze (L':=[(4,(Pd.box En.cls s0.w.heap.size g2 (0#256)))]) 5 rfl (.cons (t:=4) rfl (Dis.bx d11) .nil)
  rw [← h13]
  clear h13
  generalize s14=s at *
  obtain ⟨r15,h16,h⟩:=h
  refine rg (sx 19 (zb (o_t 5 J) J J) L fun a s _ L=>?_)
  refine sx 20 (zu (ref01_Of_ok h16) (xs:=[.tmp 19]) (.cons (o_t 19 J) .nil) J J) L fun a s _ L=>zca (L':=[]) 4 L J (o_t 20 J) ty51 J J J .nil fun s L=>?_
  refine en' (hK12 _ _ ?_)
  subst h
  exact wp_ret (retb J ty51 L J)
 obtain ⟨k20,h⟩:=h
 refine lpg (fun k21 a s=>∃(l17:(List Bool)) (i19:Int) (og18:Option Nat),Has N0 21 s0 a s [(1,(Pd.rep (En.int .u8) to_)),(4,(Pd.box En.cls s0.w.heap.size g2 (0#256))),(5,(Pd.row En.bool s0.w.heap.size 4 og18 l17)),(6,(Pi i19))]∧Dis (some g2) og18∧zco.l1 to_ (zco.j1 r_) k21 l17 i19) k20 ⟨(List.replicate 256 false),from_,(some g4),L.keep (.k 1 (.cons (t:=4) J (fun _ _ h_=>h_) (.cons (t:=5) J (fun _ _ h_=>h_) (.k 6 .nil)))),(Dis.symm d5),h⟩ ?_
 rintro k21 a s ⟨l17,i19,og18,L,d23,h⟩ KL22 hKL22
 cases k21 with
 | zero=>exact h.elim
 | succ k21=>
 unfold zco.l1 at h
 refine wp_seq_k fun K24 hK24=>wp_seq_k fun K25 hK25=>rg (sx 10 (zb (o_t 6 J) J J) L fun a s _ L=>?_)
 refine sx 11 (zb (o_t 1 J) J J) L fun a s _ L=>sx 12 (t_up (o_t 11 J) (by decide) Tryz.underlying5 Tryz.underlying3 J J) L fun a s _ L=>sx 13 (t_leq (o_t 10 J) (o_t 12 J) J J) L fun a s _ L=>en' (hK25 _ _ ?_)
 refine cnd L J (fun hb_=>?_) (fun hb_=>?_)
 ·replace h:=h.1 hb_
  refine wp_skip ?_
  show K24 a s.w
  refine hK24 _ _ (wp_seq_k fun K26 hK26=>?_)
  refine wp_block ?_
  obtain ⟨e27,h28,h⟩:=h
  refine rg (sx 16 (zb (o_t 5 J) J J) L fun a s _ L=>?_)
  refine sx 17 (zb (o_t 6 J) J J) L fun a s _ L=>sx 18 (zbx (o_t 16 J) (o_t 17 J) h28 Tryz.underlying119 ty4 J J) L fun a s _ L=>st_stor (L':=[(1,(Pd.rep (En.int .u8) to_)),(4,(Pd.box En.cls s0.w.heap.size g2 (0#256))),(5,(Pd.row En.bool s0.w.heap.size 4 og18 (l17.set (i19:Int).toNat true))),(6,(Pi i19))]) (off:=0) 5 L J h28 (o_t 18 J) o_b (zy _ _ _) ty4 J J J (.k 1 (.cons (t:=4) J (Dis.bx d23) (.turn (t:=5) J (.k 6 .nil)))) fun s L=>?_
  refine en' (hK26 _ _ ?_)
  obtain ⟨h29,h⟩:=h
  refine rg (sx 14 (zb (o_t 6 J) J J) L fun a s _ L=>?_)
  refine sx 15 (t_add (o_t 14 J) oI h29 J J) L fun a s _ L=>sx 6 (zd (o_t 15 J) J J) L fun a s _ L=>en' ?_
  exact hKL22 k21 a s (Nat.lt_succ_self _) ⟨(l17.set (i19:Int).toNat true),(i19+1),og18,L.keep (.k 1 (.cons (t:=4) J (fun _ _ h_=>h_) (.cons (t:=5) J (fun _ _ h_=>h_) (.k 6 .nil)))),d23,h⟩
 ·replace h:=h.2 hb_
  refine wp_exit ?_
  exact J10 l17 og18 a s (L.keep (.cons (t:=4) J (fun _ _ h_=>h_) (.cons (t:=5) J (fun _ _ h_=>h_) .nil))) d23 h
theorem class_Add_ok {a_:Cl} {list_:(List Int)} {r_:Cl} (h:zcz a_ list_ r_):Fn Tryz.prog 138 [(Pd.rep En.cls a_),(Pd.rep (En.slice (En.int .u8)) list_)] (Rq (Pd.rep En.cls r_)):=by
 unfold zcz at h
 refine fn_of Tryz.func138 J Tryz.ntmps138 (by rfl) (by simp) fun s0 a L=>?_
 refine wp_seq_k fun K1 hK1=>rg (st_boxm 2 L (o_t 0 J) J J J J fun a s g2 hg_ L=>?_)
 have lt_d4:=L.blt 2 rfl
 refine zbb En.cls (z:=(0#256)) 4 L tyz51 J J J J fun a s g3 hg_ L=>?_
 have d4:Dis (some g3) (some g2):=Dis.newg hg_ lt_d4
 refine en' (hK1 _ _ ?_)
 refine wp_seq_k fun K5 hK5=>wp_seq_k fun K6 hK6=>rg (sx 7 (zb (o_t 1 J) J J) L fun a s _ L=>?_)
 refine sx 8 (t_len (o_t 7 J) Tryz.underlying26 J J) L fun a s _ L=>sx 9 (zb oI J J) L fun a s _ L=>en' (hK6 _ _ ?_)
 refine wp_block ?_
 have J8:∀(a7:Cl) (a:Act) (s:St),Has N0 24 s0 a s [(2,(Pd.box En.cls s0.w.heap.size g2 a7)),(4,(Pd.box En.cls s0.w.heap.size g3 (0#256)))]→Dis (some g2) (some g3)→((zcz.j1 r_) a7)→K5 a s.w:=by
  intro a7 a s L d9 h
  unfold zcz.j1 at h
  show K5 a s.w
  refine hK5 _ _ (wp_seq_k fun K10 hK10=>?_)
  refine rg (sx 23 (zbh ty51 (o_t 2 J) J J) L fun a s _ L=>?_)
  refine zca (L':=[]) 4 L J (o_t 23 J) ty51 J J J .nil fun s L=>?_
  refine en' (hK10 _ _ ?_)
  subst h
  exact wp_ret (retb J ty51 L J)
 obtain ⟨k13,h⟩:=h
 refine lpg (fun k14 a s=>∃(a11:Cl) (v12:Int),Has N0 24 s0 a s [(2,(Pd.box En.cls s0.w.heap.size g2 a11)),(4,(Pd.box En.cls s0.w.heap.size g3 (0#256))),(7,(Pd.rep (En.slice (En.int .u8)) list_)),(8,(Pi (list_.length:Int))),(9,(Pi v12))]∧Dis (some g2) (some g3)∧zcz.l1 list_ (zcz.j1 r_) k14 a11 v12) k13 ⟨a_,0,L.keep (.cons (t:=2) J (fun _ _ h_=>h_) (.cons (t:=4) J (fun _ _ h_=>h_) (.k 7 (.k 8 (.k 9 .nil))))),(Dis.symm d4),h⟩ ?_
 rintro k14 a s ⟨a11,v12,L,d16,h⟩ KL15 hKL15
 cases k14 with
 | zero=>exact h.elim
 | succ k14=>
 unfold zcz.l1 at h
 refine wp_seq_k fun K17 hK17=>rg (sx 10 (t_lss (o_t 9 J) (o_t 8 J) J J) L fun a s _ L=>?_)
 refine en' (hK17 _ _ ?_)
 refine wp_seq_k fun K18 hK18=>cnd L J (fun hb_=>?_) (fun hb_=>?_)
 ·replace h:=h.1 hb_
  refine wp_skip ?_
  show K18 a s.w
  refine hK18 _ _ (wp_seq_k fun K19 hK19=>?_)
  refine wp_block (wp_seq_k fun K20 hK20=>?_)
  obtain ⟨e21,h22,h⟩:=h
  refine rg (sx 11 (t_idx (o_t 7 J) (o_t 9 J) h22 Tryz.underlying26 ty5 J J) L fun a s _ L=>?_)
  refine sx 12 (zo ty5 (o_t 11 J) J J) L fun a s _ L=>sx 6 (zd (o_t 12 J) J J) L fun a s _ L=>en' (hK20 _ _ ?_)
  obtain ⟨h23,h24,h⟩:=h
  refine rg (sx 13 (zb (o_t 6 J) J J) L fun a s _ L=>?_)
  refine sx 14 (t_quou (o_t 13 J) (o_i (k:=.u8) (by decide)) (by decide) (by decide) J J) L fun a s _ L=>sx 15 (t_idxcb (o_t 2 J) (o_t 14 J) h23 Tryz.underlying51 (by rfl) J J) L fun a s _ L=>sx 16 (zt ty49 (o_t 15 J) J J) L fun a s _ L=>sx 17 (zb (o_t 6 J) J J) L fun a s _ L=>sx 18 (t_remu (o_t 17 J) (o_i (k:=.u8) (by decide)) (by decide) (by decide) J J) L fun a s _ L=>sx 19 (t_shl (o_i (k:=.u64) (by decide)) (o_t 18 J) (by decide) J J) L fun a s _ L=>sx 20 (t_orb (o_t 16 J) (o_t 19 J) J J) L fun a s _ L=>sx 21 (t_idxcb (o_t 2 J) (o_t 14 J) h24 Tryz.underlying51 (by rfl) J J) L fun a s _ L=>zdp (L':=[(4,(Pd.box En.cls s0.w.heap.size g3 (0#256))),(7,(Pd.rep (En.slice (En.int .u8)) list_)),(8,(Pi (list_.length:Int))),(9,(Pi v12))]) 2 L J (o_t 21 J) (o_t 20 J) (sub_cls h24) ty49 J J J (.cons (t:=4) J (Dis.bx d4) (.k 7 (.k 8 (.k 9 .nil)))) fun s L=>?_
  refine en' (hK19 _ _ ?_)
  obtain ⟨h25,h⟩:=h
  refine rg (sx 22 (t_add (o_t 9 J) oI h25 J J) L fun a s _ L=>?_)
  refine sx 9 (zb (o_t 22 J) J J) L fun a s _ L=>en' ?_
  exact hKL15 k14 a s (Nat.lt_succ_self _) ⟨(Cl.setw a11 (e21 / 64) (orI (Cl.w a11 (e21 / 64)) (shlI 1 (e21 % 64)))),(v12+1),L.keep (.cons (t:=2) J (fun _ _ h_=>h_) (.cons (t:=4) J (fun _ _ h_=>h_) (.k 7 (.k 8 (.k 9 .nil))))),d16,h⟩
 ·replace h:=h.2 hb_
  refine wp_exit ?_
  exact J8 a11 a s (L.keep (.cons (t:=2) J (fun _ _ h_=>h_) (.cons (t:=4) J (fun _ _ h_=>h_) .nil))) d16 h
theorem class_Of_ok {from_:Int} {to_:Int} {r_:Cl} (h:zda from_ to_ r_):Fn Tryz.prog 105 [(Pd.rep (En.int .u8) from_),(Pd.rep (En.int .u8) to_)] (Rq (Pd.rep En.cls r_)):=by
 unfold zda at h
 refine fn_of Tryz.func105 J Tryz.ntmps105 (by rfl) (by simp) fun s0 a L=>?_
 refine wp_seq_k fun K1 hK1=>rg (zbb En.cls (z:=(0#256)) 4 L tyz51 J J J J fun a s g2 hg_ L=>?_)
 refine en' (hK1 _ _ ?_)
 refine wp_seq_k fun K3 hK3=>rg ?_
 have lt_d5:=L.blt 4 rfl
 refine zbb En.cls (z:=(0#256)) 5 L tyz51 J J J J fun a s g4 hg_ L=>?_
 have d5:Dis (some g4) (some g2):=Dis.newg hg_ lt_d5
 refine en' (hK3 _ _ ?_)
 refine wp_seq_k fun K6 hK6=>wp_seq_k fun K7 hK7=>rg (sx 8 (zb oI J J) L fun a s _ L=>?_)
 refine en' (hK7 _ _ ?_)
 refine wp_block ?_
 have J9:∀(a8:Cl) (a:Act) (s:St),Has N0 27 s0 a s [(4,(Pd.box En.cls s0.w.heap.size g2 (0#256))),(5,(Pd.box En.cls s0.w.heap.size g4 a8))]→Dis (some g2) (some g4)→((zda.j1 r_) a8)→K6 a s.w:=by
  intro a8 a s L d10 h
  unfold zda.j1 at h
  show K6 a s.w
  refine hK6 _ _ (wp_seq_k fun K11 hK11=>?_)
  refine rg (sx 26 (zbh ty51 (o_t 5 J) J J) L fun a s _ L=>?_)
  refine zca (L':=[]) 4 L J (o_t 26 J) ty51 J J J .nil fun s L=>?_
  refine en' (hK11 _ _ ?_)
  subst h
  exact wp_ret (retb J ty51 L J)
 obtain ⟨k14,h⟩:=h
 refine lpg (fun k15 a s=>∃(a12:Cl) (v13:Int),Has N0 27 s0 a s [(0,(Pd.rep (En.int .u8) from_)),(1,(Pd.rep (En.int .u8) to_)),(4,(Pd.box En.cls s0.w.heap.size g2 (0#256))),(5,(Pd.box En.cls s0.w.heap.size g4 a12)),(8,(Pi v13))]∧Dis (some g2) (some g4)∧zda.l1 from_ to_ (zda.j1 r_) k15 a12 v13) k14 ⟨(0#256),0,L.keep (.k 0 (.k 1 (.cons (t:=4) J (fun _ _ h_=>h_) (.cons (t:=5) J (fun _ _ h_=>h_) (.k 8 .nil))))),(Dis.symm d5),h⟩ ?_
 rintro k15 a s ⟨a12,v13,L,d17,h⟩ KL16 hKL16
 cases k15 with
 | zero=>exact h.elim
 | succ k15=>
 unfold zda.l1 at h
 refine wp_seq_k fun K18 hK18=>rg (sx 9 (t_lss (o_t 8 J) oI J J) L fun a s _ L=>?_)
 refine en' (hK18 _ _ ?_)
 refine wp_seq_k fun K19 hK19=>cnd L J (fun hb_=>?_) (fun hb_=>?_)
 ·replace h:=h.1 hb_
  refine wp_skip ?_
  show K19 a s.w
  refine hK19 _ _ (wp_seq_k fun K20 hK20=>?_)
  refine wp_block (wp_seq_k fun K21 hK21=>?_)
  refine rg (sx 10 (zb (o_t 8 J) J J) L fun a s _ L=>?_)
  refine sx 6 (zd (o_t 10 J) J J) L fun a s _ L=>en' (hK21 _ _ ?_)
  refine wp_seq_k fun K22 hK22=>rg (sx 11 (zb (o_t 6 J) J J) L fun a s _ L=>?_)
  refine sx 12 (t_u8 (o_t 11 J) Tryz.underlying3 Tryz.underlying5 J J) L fun a s _ L=>sx 7 (zd (o_t 12 J) J J) L fun a s _ L=>en' (hK22 _ _ ?_)
  refine wp_seq_k fun K23 hK23=>?_
  obtain ⟨b24,h25,h⟩:=h
  refine rg (sx 13 (zb (o_t 7 J) J J) L fun a s _ L=>?_)
  refine sx 14 (zb (o_t 0 J) J J) L fun a s _ L=>sx 15 (t_geq (o_t 13 J) (o_t 14 J) J J) L fun a s _ L=>sx 16 (zb (o_t 15 J) J J) L fun a s _ L=>sx 17 (t_g1 J J J (fun hc_=>zb (o_t 7 J) J J)) L fun a s _ L=>sx 18 (t_g1 J J J (fun hc_=>zb (o_t 1 J) J J)) L fun a s _ L=>sx 19 (t_g1 J J J (fun hc_=>t_leq (o_w hc_ 17 J) (o_w hc_ 18 J) J J)) L fun a s _ L=>sx 20 (h25 ▸ (t_and (o_t 16 J) (fun hc2_=>(o_w hc2_ 19 J)) J J)) L fun a s _ L=>en' (hK23 _ _ ?_)
  refine cnd L J (fun hb_=>?_) (fun hb_=>?_)
  ·obtain ⟨r26,h27,h⟩:=h.1 hb_
   refine rg (sx 21 (zbh ty51 (o_t 5 J) J J) L fun a s _ L=>?_)
   refine sx 22 (zb (o_t 7 J) J J) L fun a s _ L=>sx 23 (t_lit (xs:=[.tmp 22]) (.cons (o_t 22 J) .nil) Tryz.underlying26 ty5 J J (by decide) J J) L fun a s _ L=>sx 24 (zu (class_Add_ok h27) (xs:=[.tmp 21,.tmp 23]) (.cons (o_t 21 J) (.cons (o_t 23 J) .nil)) J J) L fun a s _ L=>zca (L':=[(0,(Pd.rep (En.int .u8) from_)),(1,(Pd.rep (En.int .u8) to_)),(4,(Pd.box En.cls s0.w.heap.size g2 (0#256))),(8,(Pi v13))]) 5 L J (o_t 24 J) ty51 J J J (.k 0 (.k 1 (.cons (t:=4) J (Dis.bx d17) (.k 8 .nil)))) fun s L=>?_
   refine en' (hK20 _ _ ?_)
   obtain ⟨h28,h⟩:=h
   refine rg (sx 25 (t_add (o_t 8 J) oI h28 J J) L fun a s _ L=>?_)
   refine sx 8 (zb (o_t 25 J) J J) L fun a s _ L=>en' ?_
   exact hKL16 k15 a s (Nat.lt_succ_self _) ⟨r26,(v13+1),L.keep (.k 0 (.k 1 (.cons (t:=4) J (fun _ _ h_=>h_) (.cons (t:=5) J (fun _ _ h_=>h_) (.k 8 .nil))))),d17,h⟩
  ·replace h:=h.2 hb_
   refine wp_skip ?_
   show K20 a s.w
   refine hK20 _ _ ?_
   obtain ⟨h29,h⟩:=h
   refine rg (sx 25 (t_add (o_t 8 J) oI h29 J J) L fun a s _ L=>?_)
   refine sx 8 (zb (o_t 25 J) J J) L fun a s _ L=>en' ?_
   exact hKL16 k15 a s (Nat.lt_succ_self _) ⟨a12,(v13+1),L.keep (.k 0 (.k 1 (.cons (t:=4) J (fun _ _ h_=>h_) (.cons (t:=5) J (fun _ _ h_=>h_) (.k 8 .nil))))),d17,h⟩
 ·replace h:=h.2 hb_
  refine wp_exit ?_
  exact J9 a12 a s (L.keep (.cons (t:=4) J (fun _ _ h_=>h_) (.cons (t:=5) J (fun _ _ h_=>h_) .nil))) d17 h
theorem class_Not_ok {a_:Cl} {r_:Cl} (h:zcy a_ r_):Fn Tryz.prog 135 [(Pd.rep En.cls a_)] (Rq (Pd.rep En.cls r_)):=by
 unfold zcy at h
 refine fn_of Tryz.func135 J Tryz.ntmps135 (by rfl) (by simp) fun s0 a L=>?_
 refine wp_seq_k fun K1 hK1=>rg (st_boxm 1 L (o_t 0 J) J J J J fun a s g2 hg_ L=>?_)
 have lt_d4:=L.blt 1 rfl
 refine zbb En.cls (z:=(0#256)) 2 L tyz51 J J J J fun a s g3 hg_ L=>?_
 have d4:Dis (some g3) (some g2):=Dis.newg hg_ lt_d4
 refine en' (hK1 _ _ ?_)
 refine wp_seq_k fun K5 hK5=>wp_seq_k fun K6 hK6=>rg (sx 4 (zb oI J J) L fun a s _ L=>?_)
 refine en' (hK6 _ _ ?_)
 refine wp_block ?_
 have J8:∀(a7:Cl) (a:Act) (s:St),Has N0 15 s0 a s [(1,(Pd.box En.cls s0.w.heap.size g2 a7)),(2,(Pd.box En.cls s0.w.heap.size g3 (0#256)))]→Dis (some g2) (some g3)→((zcy.j1 r_) a7)→K5 a s.w:=by
  intro a7 a s L d9 h
  unfold zcy.j1 at h
  show K5 a s.w
  refine hK5 _ _ (wp_seq_k fun K10 hK10=>?_)
  refine rg (sx 14 (zbh ty51 (o_t 1 J) J J) L fun a s _ L=>?_)
  refine zca (L':=[]) 2 L J (o_t 14 J) ty51 J J J .nil fun s L=>?_
  refine en' (hK10 _ _ ?_)
  subst h
  exact wp_ret (retb J ty51 L J)
 obtain ⟨k13,h⟩:=h
 refine lpg (fun k14 a s=>∃(a11:Cl) (v12:Int),Has N0 15 s0 a s [(1,(Pd.box En.cls s0.w.heap.size g2 a11)),(2,(Pd.box En.cls s0.w.heap.size g3 (0#256))),(4,(Pi v12))]∧Dis (some g2) (some g3)∧zcy.l1 (zcy.j1 r_) k14 a11 v12) k13 ⟨a_,0,L.keep (.cons (t:=1) J (fun _ _ h_=>h_) (.cons (t:=2) J (fun _ _ h_=>h_) (.k 4 .nil))),(Dis.symm d4),h⟩ ?_
 rintro k14 a s ⟨a11,v12,L,d16,h⟩ KL15 hKL15
 cases k14 with
 | zero=>exact h.elim
 | succ k14=>
 unfold zcy.l1 at h
 refine wp_seq_k fun K17 hK17=>rg (sx 5 (t_lss (o_t 4 J) oI J J) L fun a s _ L=>?_)
 refine en' (hK17 _ _ ?_)
 refine wp_seq_k fun K18 hK18=>cnd L J (fun hb_=>?_) (fun hb_=>?_)
 ·replace h:=h.1 hb_
  refine wp_skip ?_
  show K18 a s.w
  refine hK18 _ _ (wp_seq_k fun K19 hK19=>?_)
  refine wp_block (wp_seq_k fun K20 hK20=>?_)
  refine rg (sx 6 (zb (o_t 4 J) J J) L fun a s _ L=>?_)
  refine sx 3 (zd (o_t 6 J) J J) L fun a s _ L=>en' (hK20 _ _ ?_)
  obtain ⟨h21,h22,h⟩:=h
  refine rg (sx 7 (zb (o_t 3 J) J J) L fun a s _ L=>?_)
  refine sx 8 (zb (o_t 3 J) J J) L fun a s _ L=>sx 9 (t_idxcb (o_t 1 J) (o_t 8 J) h21 Tryz.underlying51 (by rfl) J J) L fun a s _ L=>sx 10 (zt ty49 (o_t 9 J) J J) L fun a s _ L=>sx 11 (t_com (o_t 10 J) J J) L fun a s _ L=>sx 12 (t_idxcb (o_t 1 J) (o_t 7 J) h22 Tryz.underlying51 (by rfl) J J) L fun a s _ L=>zdp (L':=[(2,(Pd.box En.cls s0.w.heap.size g3 (0#256))),(4,(Pi v12))]) 1 L J (o_t 12 J) (o_t 11 J) (sub_cls h22) ty49 J J J (.cons (t:=2) J (Dis.bx d4) (.k 4 .nil)) fun s L=>?_
  refine en' (hK19 _ _ ?_)
  obtain ⟨h23,h⟩:=h
  refine rg (sx 13 (t_add (o_t 4 J) oI h23 J J) L fun a s _ L=>?_)
  refine sx 4 (zb (o_t 13 J) J J) L fun a s _ L=>en' ?_
  exact hKL15 k14 a s (Nat.lt_succ_self _) ⟨(Cl.setw a11 v12 (xorI 18446744073709551615 (Cl.w a11 v12))),(v12+1),L.keep (.cons (t:=1) J (fun _ _ h_=>h_) (.cons (t:=2) J (fun _ _ h_=>h_) (.k 4 .nil))),d16,h⟩
 ·replace h:=h.2 hb_
  refine wp_exit ?_
  exact J8 a11 a s (L.keep (.cons (t:=1) J (fun _ _ h_=>h_) (.cons (t:=2) J (fun _ _ h_=>h_) .nil))) d16 h
theorem class_Both_ok {a_:Cl} {b_:Cl} {r_:Cl} (h:zcj a_ b_ r_):Fn Tryz.prog 163 [(Pd.rep En.cls a_),(Pd.rep En.cls b_)] (Rq (Pd.rep En.cls r_)):=by
 unfold zcj at h
 refine fn_of Tryz.func163 J Tryz.ntmps163 (by rfl) (by simp) fun s0 a L=>?_
 refine wp_seq_k fun K1 hK1=>rg (st_boxm 2 L (o_t 0 J) J J J J fun a s g2 hg_ L=>?_)
 refine sx 3 (t_box (o_t 1 J) J J) L fun a s _ L=>?_
 have lt_d4:=L.blt 2 rfl
 refine zbb En.cls (z:=(0#256)) 4 L tyz51 J J J J fun a s g3 hg_ L=>?_
 have d4:Dis (some g3) (some g2):=Dis.newg hg_ lt_d4
 refine en' (hK1 _ _ ?_)
 refine wp_seq_k fun K5 hK5=>wp_seq_k fun K6 hK6=>rg (sx 6 (zb oI J J) L fun a s _ L=>?_)
 refine en' (hK6 _ _ ?_)
 refine wp_block ?_
 have J8:∀(a7:Cl) (a:Act) (s:St),Has N0 19 s0 a s [(2,(Pd.box En.cls s0.w.heap.size g2 a7)),(4,(Pd.box En.cls s0.w.heap.size g3 (0#256)))]→Dis (some g2) (some g3)→((zcj.j1 r_) a7)→K5 a s.w:=by
  intro a7 a s L d9 h
  unfold zcj.j1 at h
  show K5 a s.w
  refine hK5 _ _ (wp_seq_k fun K10 hK10=>?_)
  refine rg (sx 18 (zbh ty51 (o_t 2 J) J J) L fun a s _ L=>?_)
  refine zca (L':=[]) 4 L J (o_t 18 J) ty51 J J J .nil fun s L=>?_
  refine en' (hK10 _ _ ?_)
  subst h
  exact wp_ret (retb J ty51 L J)
 obtain ⟨k13,h⟩:=h
 refine lpg (fun k14 a s=>∃(a11:Cl) (v12:Int),Has N0 19 s0 a s [(2,(Pd.box En.cls s0.w.heap.size g2 a11)),(3,(Pd.ptr En.cls b_)),(4,(Pd.box En.cls s0.w.heap.size g3 (0#256))),(6,(Pi v12))]∧Dis (some g2) (some g3)∧zcj.l1 b_ (zcj.j1 r_) k14 a11 v12) k13 ⟨a_,0,L.keep (.cons (t:=2) J (fun _ _ h_=>h_) (.k 3 (.cons (t:=4) J (fun _ _ h_=>h_) (.k 6 .nil)))),(Dis.symm d4),h⟩ ?_
 rintro k14 a s ⟨a11,v12,L,d16,h⟩ KL15 hKL15
 cases k14 with
 | zero=>exact h.elim
 | succ k14=>
 unfold zcj.l1 at h
 refine wp_seq_k fun K17 hK17=>rg (sx 7 (t_lss (o_t 6 J) oI J J) L fun a s _ L=>?_)
 refine en' (hK17 _ _ ?_)
 refine wp_seq_k fun K18 hK18=>cnd L J (fun hb_=>?_) (fun hb_=>?_)
 ·replace h:=h.1 hb_
  refine wp_skip ?_
  show K18 a s.w
  refine hK18 _ _ (wp_seq_k fun K19 hK19=>?_)
  refine wp_block (wp_seq_k fun K20 hK20=>?_)
  refine rg (sx 8 (zb (o_t 6 J) J J) L fun a s _ L=>?_)
  refine sx 5 (zd (o_t 8 J) J J) L fun a s _ L=>en' (hK20 _ _ ?_)
  obtain ⟨h21,h22,h23,h⟩:=h
  refine rda zbk 8 [(Pi v12),(Pd.optr (En.int .u64) s0.w.heap.size (some g2) (v12.toNat) (Cl.w a11 v12)),(Pd.rep (En.int .u64) (Cl.w a11 v12)),(Pi v12),(Pd.ptr (En.int .u64) (Cl.w b_ v12)),(Pd.rep (En.int .u64) (Cl.w b_ v12)),(Pd.rep (En.int .u64) (andI (Cl.w a11 v12) (Cl.w b_ v12))),(Pd.optr (En.int .u64) s0.w.heap.size (some g2) (v12.toNat) (Cl.w a11 v12))] L (by kernel_rfl) J J ?_ ?_
  ·refine AllT.cons (zb (o_t 5 J) J J) ?_
   refine AllT.cons (t_idxcb (o_t 2 J) (o_t 9 J) h21 Tryz.underlying51 (by rfl) J J) (AllT.cons (zt ty49 (o_t 10 J) J J) ?_)
   refine AllT.cons (zb (o_t 5 J) J J) (AllT.cons (t_idxc (o_t 3 J) (o_t 12 J) h22 Tryz.underlying51 (by rfl) J J) ?_)
   refine AllT.cons (zo ty49 (o_t 13 J) J J) (AllT.cons (t_andb (o_t 11 J) (o_t 14 J) J J) ?_)
   refine AllT.cons (t_idxcb (o_t 2 J) (o_t 9 J) h23 Tryz.underlying51 (by rfl) J J) ?_
   exact AllT.nil
  intro a s _ L
  refine zdp (L':=[(3,(Pd.ptr En.cls b_)),(4,(Pd.box En.cls s0.w.heap.size g3 (0#256))),(6,(Pi v12))]) 2 L J (o_t 16 J) (o_t 15 J) (sub_cls h23) ty49 J J J (.k 3 (.cons (t:=4) J (Dis.bx d4) (.k 6 .nil))) fun s L=>?_
  refine en' (hK19 _ _ ?_)
  obtain ⟨h24,h⟩:=h
  refine rg (sx 17 (t_add (o_t 6 J) oI h24 J J) L fun a s _ L=>?_)
  refine sx 6 (zb (o_t 17 J) J J) L fun a s _ L=>en' ?_
  exact hKL15 k14 a s (Nat.lt_succ_self _) ⟨(Cl.setw a11 v12 (andI (Cl.w a11 v12) (Cl.w b_ v12))),(v12+1),L.keep (.cons (t:=2) J (fun _ _ h_=>h_) (.k 3 (.cons (t:=4) J (fun _ _ h_=>h_) (.k 6 .nil)))),d16,h⟩
 ·replace h:=h.2 hb_
  refine wp_exit ?_
  exact J8 a11 a s (L.keep (.cons (t:=2) J (fun _ _ h_=>h_) (.cons (t:=4) J (fun _ _ h_=>h_) .nil))) d16 h
theorem class_Count_ok {a_:Cl} {r_:Int} (h:zb3 a_ r_):Fn Tryz.prog 164 [(Pd.rep En.cls a_)] (Rq (Pi r_)):=by
 unfold zb3 at h
 refine fn_of Tryz.func164 J Tryz.ntmps164 (by rfl) (by simp) fun s0 a L=>?_
 refine wp_seq_k fun K1 hK1=>rg (sx 1 (t_box (o_t 0 J) J J) L fun a s _ L=>?_)
 refine sx 2 (zd oI J J) L fun a s _ L=>en' (hK1 _ _ ?_)
 refine wp_seq_k fun K2 hK2=>rg (sx 3 (zd oI J J) L fun a s _ L=>?_)
 refine en' (hK2 _ _ ?_)
 refine wp_seq_k fun K3 hK3=>wp_seq_k fun K4 hK4=>rg (sx 5 (zb oI J J) L fun a s _ L=>?_)
 refine en' (hK4 _ _ ?_)
 refine wp_block ?_
 have J6:∀(n5:Int) (a:Act) (s:St),Has N0 16 s0 a s [(3,(Pi n5))]→((zb3.j1 r_) n5)→K3 a s.w:=by
  intro n5 a s L h
  unfold zb3.j1 at h
  show K3 a s.w
  refine hK3 _ _ (wp_seq_k fun K7 hK7=>?_)
  refine rg (sx 15 (zb (o_t 3 J) J J) L fun a s _ L=>?_)
  refine sx 2 (zd (o_t 15 J) J J) L fun a s _ L=>en' (hK7 _ _ ?_)
  subst h
  exact wp_ret (retq J L J)
 obtain ⟨k10,h⟩:=h
 refine lpg (fun k11 a s=>∃(n8:Int) (v9:Int),Has N0 16 s0 a s [(1,(Pd.ptr En.cls a_)),(3,(Pi n8)),(5,(Pi v9))]∧zb3.l1 a_ (zb3.j1 r_) k11 n8 v9) k10 ⟨0,0,L.keep (.k 1 (.k 3 (.k 5 .nil))),h⟩ ?_
 rintro k11 a s ⟨n8,v9,L,h⟩ KL12 hKL12
 cases k11 with
 | zero=>exact h.elim
 | succ k11=>
 unfold zb3.l1 at h
 refine wp_seq_k fun K13 hK13=>rg (sx 6 (t_lss (o_t 5 J) oI J J) L fun a s _ L=>?_)
 refine en' (hK13 _ _ ?_)
 refine wp_seq_k fun K14 hK14=>cnd L J (fun hb_=>?_) (fun hb_=>?_)
 ·replace h:=h.1 hb_
  refine wp_skip ?_
  show K14 a s.w
  refine hK14 _ _ (wp_seq_k fun K15 hK15=>?_)
  refine wp_block (wp_seq_k fun K16 hK16=>?_)
  refine rg (sx 7 (zb (o_t 5 J) J J) L fun a s _ L=>?_)
  refine sx 4 (zd (o_t 7 J) J J) L fun a s _ L=>en' (hK16 _ _ ?_)
  refine wp_seq_k fun K17 hK17=>?_
  obtain ⟨r18,h19,h⟩:=h
  refine rg (sx 8 (zo ty51 (o_t 1 J) J J) L fun a s _ L=>?_)
  refine sx 9 (zb (o_t 4 J) J J) L fun a s _ L=>sx 10 (t_u8 (o_t 9 J) Tryz.underlying3 Tryz.underlying5 J J) L fun a s _ L=>sx 11 (zu (class_Has_ok h19) (xs:=[.tmp 8,.tmp 10]) (.cons (o_t 8 J) (.cons (o_t 10 J) .nil)) J J) L fun a s _ L=>en' (hK17 _ _ ?_)
  refine cnd L J (fun hb_=>?_) (fun hb_=>?_)
  ·obtain ⟨h20,h⟩:=h.1 hb_
   refine rg (sx 12 (zb (o_t 3 J) J J) L fun a s _ L=>?_)
   refine sx 13 (t_add (o_t 12 J) oI h20 J J) L fun a s _ L=>sx 3 (zd (o_t 13 J) J J) L fun a s _ L=>en' (hK15 _ _ ?_)
   obtain ⟨h21,h⟩:=h
   refine rg (sx 14 (t_add (o_t 5 J) oI h21 J J) L fun a s _ L=>?_)
   refine sx 5 (zb (o_t 14 J) J J) L fun a s _ L=>en' ?_
   exact hKL12 k11 a s (Nat.lt_succ_self _) ⟨(n8+1),(v9+1),L.keep (.k 1 (.k 3 (.k 5 .nil))),h⟩
  ·replace h:=h.2 hb_
   refine wp_skip ?_
   show K15 a s.w
   refine hK15 _ _ ?_
   obtain ⟨h22,h⟩:=h
   refine rg (sx 14 (t_add (o_t 5 J) oI h22 J J) L fun a s _ L=>?_)
   refine sx 5 (zb (o_t 14 J) J J) L fun a s _ L=>en' ?_
   exact hKL12 k11 a s (Nat.lt_succ_self _) ⟨n8,(v9+1),L.keep (.k 1 (.k 3 (.k 5 .nil))),h⟩
 ·replace h:=h.2 hb_
  refine wp_exit ?_
  exact J6 n8 a s (L.keep (.k 3 .nil)) h
theorem class_Least_ok {a_:Cl} {r_:(Int × Bool)} (h:zbv a_ r_):Fn Tryz.prog 104 [(Pd.rep En.cls a_)] (Rq2 (Pd.rep (En.int .u8) r_.1) (Pd.rep En.bool r_.2)):=by
 unfold zbv at h
 refine fn_of Tryz.func104 J Tryz.ntmps104 (by rfl) (by simp) fun s0 a L=>?_
 refine wp_seq_k fun K1 hK1=>rg (sx 1 (t_box (o_t 0 J) J J) L fun a s _ L=>?_)
 refine sx 2 (zd (o_i (k:=.u8) (by decide)) J J) L fun a s _ L=>sx 3 (zd o_b J J) L fun a s _ L=>en' (hK1 _ _ ?_)
 refine wp_seq_k fun K2 hK2=>wp_seq_k fun K3 hK3=>rg (sx 5 (zb oI J J) L fun a s _ L=>?_)
 refine en' (hK3 _ _ ?_)
 refine wp_block ?_
 have J4:∀(a:Act) (s:St),Has N0 15 s0 a s []→((zbv.j1 r_))→K2 a s.w:=by
  intro a s L h
  unfold zbv.j1 at h
  show K2 a s.w
  refine hK2 _ _ (wp_seq_k fun K5 hK5=>?_)
  refine rg (sx 2 (zd (o_i (k:=.u8) (by decide)) J J) L fun a s _ L=>?_)
  refine sx 3 (zd o_b J J) L fun a s _ L=>en' (hK5 _ _ ?_)
  subst h
  exact wp_ret (ret2 J L J J)
 obtain ⟨k7,h⟩:=h
 refine lpg (fun k8 a s=>∃(v6:Int),Has N0 15 s0 a s [(1,(Pd.ptr En.cls a_)),(5,(Pi v6))]∧zbv.l1 a_ r_ (zbv.j1 r_) k8 v6) k7 ⟨0,L.keep (.k 1 (.k 5 .nil)),h⟩ ?_
 rintro k8 a s ⟨v6,L,h⟩ KL9 hKL9
 cases k8 with
 | zero=>exact h.elim
 | succ k8=>
 unfold zbv.l1 at h
 refine wp_seq_k fun K10 hK10=>rg (sx 6 (t_lss (o_t 5 J) oI J J) L fun a s _ L=>?_)
 refine en' (hK10 _ _ ?_)
 refine wp_seq_k fun K11 hK11=>cnd L J (fun hb_=>?_) (fun hb_=>?_)
 ·replace h:=h.1 hb_
  refine wp_skip ?_
  show K11 a s.w
  refine hK11 _ _ (wp_seq_k fun K12 hK12=>?_)
  refine wp_block (wp_seq_k fun K13 hK13=>?_)
  refine rg (sx 7 (zb (o_t 5 J) J J) L fun a s _ L=>?_)
  refine sx 4 (zd (o_t 7 J) J J) L fun a s _ L=>en' (hK13 _ _ ?_)
  refine wp_seq_k fun K14 hK14=>?_
  obtain ⟨r15,h16,h⟩:=h
  refine rg (sx 8 (zo ty51 (o_t 1 J) J J) L fun a s _ L=>?_)
  refine sx 9 (zb (o_t 4 J) J J) L fun a s _ L=>sx 10 (t_u8 (o_t 9 J) Tryz.underlying3 Tryz.underlying5 J J) L fun a s _ L=>sx 11 (zu (class_Has_ok h16) (xs:=[.tmp 8,.tmp 10]) (.cons (o_t 8 J) (.cons (o_t 10 J) .nil)) J J) L fun a s _ L=>en' (hK14 _ _ ?_)
  refine cnd L J (fun hb_=>?_) (fun hb_=>?_)
  ·replace h:=h.1 hb_
   refine wp_seq_k fun K17 hK17=>rg (sx 12 (zb (o_t 4 J) J J) L fun a s _ L=>?_)
   refine sx 13 (t_u8 (o_t 12 J) Tryz.underlying3 Tryz.underlying5 J J) L fun a s _ L=>sx 2 (zd (o_t 13 J) J J) L fun a s _ L=>sx 3 (zd o_b J J) L fun a s _ L=>en' (hK17 _ _ ?_)
   subst h
   exact wp_ret (ret2 J L J J)
  ·replace h:=h.2 hb_
   refine wp_skip ?_
   show K12 a s.w
   refine hK12 _ _ ?_
   obtain ⟨h18,h⟩:=h
   refine rg (sx 14 (t_add (o_t 5 J) oI h18 J J) L fun a s _ L=>?_)
   refine sx 5 (zb (o_t 14 J) J J) L fun a s _ L=>en' ?_
   exact hKL9 k8 a s (Nat.lt_succ_self _) ⟨(v6+1),L.keep (.k 1 (.k 5 .nil)),h⟩
 ·replace h:=h.2 hb_
  refine wp_exit ?_
  exact J4 a s (L.keep .nil) h
theorem ref01_Has_ok {a_:Cl} {cv_:Int} {r_:Bool} (h:zcp a_ cv_ r_):Fn Tryz.prog 108 [(Pd.rep En.cls a_),(Pd.rep (En.int .u8) cv_)] (Rq (Pd.rep En.bool r_)):=by
 unfold zcp at h
 refine fn_of Tryz.func108 J Tryz.ntmps108 (by rfl) (by simp) fun s0 a L=>?_
 refine wp_seq_k fun K1 hK1=>rg (sx 2 (t_box (o_t 0 J) J J) L fun a s _ L=>?_)
 refine sx 4 (zd o_b J J) L fun a s _ L=>en' (hK1 _ _ ?_)
 refine wp_seq_k fun K2 hK2=>?_
 obtain ⟨h3,h4,h⟩:=h
 refine rg (sx 7 (zb (o_t 1 J) J J) L fun a s _ L=>?_)
 refine sx 8 (t_up (o_t 7 J) (by decide) Tryz.underlying5 Tryz.underlying3 J J) L fun a s _ L=>sx 9 (t_quo (o_t 8 J) oI h3 (by decide) J J) L fun a s _ L=>sx 10 (t_idxc (o_t 2 J) (o_t 9 J) h4 Tryz.underlying51 (by rfl) J J) L fun a s _ L=>sx 11 (zo ty49 (o_t 10 J) J J) L fun a s _ L=>sx 5 (zd (o_t 11 J) J J) L fun a s _ L=>en' (hK2 _ _ ?_)
 refine wp_seq_k fun K5 hK5=>wp_seq_k fun K6 hK6=>rg (sx 6 (zd oI J J) L fun a s _ L=>?_)
 refine en' (hK6 _ _ ?_)
 refine wp_block ?_
 have J8:∀(w7:Int) (a:Act) (s:St),Has N0 24 s0 a s [(5,(Pd.rep (En.int .u64) w7))]→((zcp.j1 r_) w7)→K5 a s.w:=by
  intro w7 a s L h
  unfold zcp.j1 at h
  show K5 a s.w
  refine hK5 _ _ (wp_seq_k fun K9 hK9=>?_)
  refine rg (sx 21 (zb (o_t 5 J) J J) L fun a s _ L=>?_)
  refine sx 22 (t_remu (o_t 21 J) (o_i (k:=.u64) (by decide)) (by decide) (by decide) J J) L fun a s _ L=>sx 23 (t_eqi (o_t 22 J) (o_i (k:=.u64) (by decide)) J J) L fun a s _ L=>sx 4 (zd (o_t 23 J) J J) L fun a s _ L=>en' (hK9 _ _ ?_)
  subst h
  exact wp_ret (retq J L J)
 obtain ⟨k12,h⟩:=h
 refine lpg (fun k13 a s=>∃(w10:Int) (i11:Int),Has N0 24 s0 a s [(1,(Pd.rep (En.int .u8) cv_)),(5,(Pd.rep (En.int .u64) w10)),(6,(Pi i11))]∧zcp.l1 cv_ (zcp.j1 r_) k13 w10 i11) k12 ⟨(Cl.w a_ (cv_ / 64)),0,L.keep (.k 1 (.k 5 (.k 6 .nil))),h⟩ ?_
 rintro k13 a s ⟨w10,i11,L,h⟩ KL14 hKL14
 cases k13 with
 | zero=>exact h.elim
 | succ k13=>
 unfold zcp.l1 at h
 refine wp_seq_k fun K15 hK15=>wp_seq_k fun K16 hK16=>?_
 obtain ⟨h17,h⟩:=h
 refine rg (sx 12 (zb (o_t 6 J) J J) L fun a s _ L=>?_)
 refine sx 13 (zb (o_t 1 J) J J) L fun a s _ L=>sx 14 (t_up (o_t 13 J) (by decide) Tryz.underlying5 Tryz.underlying3 J J) L fun a s _ L=>sx 15 (t_rem (o_t 14 J) oI h17 (by decide) J J) L fun a s _ L=>sx 16 (t_lss (o_t 12 J) (o_t 15 J) J J) L fun a s _ L=>en' (hK16 _ _ ?_)
 refine cnd L J (fun hb_=>?_) (fun hb_=>?_)
 ·replace h:=h.1 hb_
  refine wp_skip ?_
  show K15 a s.w
  refine hK15 _ _ (wp_seq_k fun K18 hK18=>?_)
  refine wp_block (rg ?_)
  refine sx 19 (zb (o_t 5 J) J J) L fun a s _ L=>sx 20 (t_quou (o_t 19 J) (o_i (k:=.u64) (by decide)) (by decide) (by decide) J J) L fun a s _ L=>sx 5 (zd (o_t 20 J) J J) L fun a s _ L=>en' (hK18 _ _ ?_)
  obtain ⟨h19,h⟩:=h
  refine rg (sx 17 (zb (o_t 6 J) J J) L fun a s _ L=>?_)
  refine sx 18 (t_add (o_t 17 J) oI h19 J J) L fun a s _ L=>sx 6 (zd (o_t 18 J) J J) L fun a s _ L=>en' ?_
  exact hKL14 k13 a s (Nat.lt_succ_self _) ⟨(w10 / 2),(i11+1),L.keep (.k 1 (.k 5 (.k 6 .nil))),h⟩
 ·replace h:=h.2 hb_
  refine wp_exit ?_
  exact J8 w10 a s (L.keep (.k 5 .nil)) h
def zdm (a_:Cl) (r_:Int):Prop:=∃r3:(Int × Bool),zbv a_ r3∧r_=r3.1
def zd3 (a_:Cl) (b_:Cl) (cap0_:(Cl × Int→Prop)) (r_:Int):Prop:=∃r3:Int,cap0_ (a_,r3)∧∃r5:Int,cap0_ (b_,r5)∧(InR .i64 (r3-r5))∧r_=r3-r5
def zz.j1 (r_:(List Cl)) (out5:(List Cl)):Prop:=∃r14:(List Cl),zbe out5 (fun q_=>zd3 q_.1 q_.2.1 (fun q_=>zdm q_.1 q_.2) q_.2.2) r14∧r_=r14
def zz.j2 (L1_:(List Cl)→Int→Prop) (v19:Int) (out38:(List Cl)):Prop:=(InR .i64 (v19+1))∧L1_ out38 (v19+1)
def zz.l2 (r32:Cl) (r36:Cl) (X2:(List Cl)→Prop):Nat→(List Cl)→Int→Prop
 | 0,_,_=>False
 | k_0+1,out42,v44=>((decide (v44<([r32,r36].length:Int)))=true→∃e52:Cl,at? [r32,r36] v44=some e52∧∃r57:Int,zb3 e52 r57∧((decide (0<r57))=true→(out42.length+[e52].length≤2147483648)∧(InR .i64 (v44+1))∧zz.l2 r32 r36 X2 k_0 (out42++[e52]) (v44+1))∧((decide (0<r57))=false→(InR .i64 (v44+1))∧zz.l2 r32 r36 X2 k_0 out42 (v44+1)))∧((decide (v44<([r32,r36].length:Int)))=false→X2 out42)
def zz.l1 (parts_:(List Cl)) (a_:Cl) (X1:(List Cl)→Prop):Nat→(List Cl)→Int→Prop
 | 0,_,_=>False
 | k_0+1,out17,v19=>((decide (v19<(parts_.length:Int)))=true→∃e27:Cl,at? parts_ v19=some e27∧∃r32:Cl,zcj e27 a_ r32∧∃r34:Cl,zcy a_ r34∧∃r36:Cl,zcj e27 r34 r36∧∃k45,zz.l2 r32 r36 (zz.j2 (zz.l1 parts_ a_ X1 k_0) v19) k45 out17 0)∧((decide (v19<(parts_.length:Int)))=false→X1 out17)
def zz (parts_:(List Cl)) (a_:Cl) (r_:(List Cl)):Prop:=∃k20,zz.l1 parts_ a_ (zz.j1 r_) k20 ([]:(List Cl)) 0
def zb5.j1 (r_:(List Cl)) (out8:(List Cl)):Prop:=r_=out8
def zb5.l1 (list_:(List Cl)) (X1:(List Cl)→Prop):Nat→(List Cl)→Int→Prop
 | 0,_,_=>False
 | k_0+1,out12,v14=>((decide (v14<(list_.length:Int)))=true→∃e22:Cl,at? list_ v14=some e22∧∃r28:(List Cl),zz out12 e22 r28∧(InR .i64 (v14+1))∧zb5.l1 list_ X1 k_0 r28 (v14+1))∧((decide (v14<(list_.length:Int)))=false→X1 out12)
def zb5 (list_:(List Cl)) (r_:(List Cl)):Prop:=∃r3:Cl,zcy (0#256) r3∧∃k15,zb5.l1 list_ (zb5.j1 r_) k15 [r3] 0
def zb6.j1 (r_:(List Int)) (out7:(List Int)):Prop:=r_=out7
def zb6.l1 (r5:(List Cl)) (X1:(List Int)→Prop):Nat→(List Int)→Int→Prop
 | 0,_,_=>False
 | k_0+1,out11,v13=>((decide (v13<(r5.length:Int)))=true→∃e21:Cl,at? r5 v13=some e21∧∃r26:(Int × Bool),zbv e21 r26∧(out11.length+[r26.1].length≤2147483648)∧(InR .i64 (v13+1))∧zb6.l1 r5 X1 k_0 (out11++[r26.1]) (v13+1))∧((decide (v13<(r5.length:Int)))=false→X1 out11)
def zb6 (list_:(List Cl)) (r_:(List Int)):Prop:=∃r5:(List Cl),zb5 list_ r5∧∃k14,zb6.l1 r5 (zb6.j1 r_) k14 ([]:(List Int)) 0
def zb2.j1 (r_:Bool):Prop:=r_=true
def zb2.l1 (a_:(List Int)) (b_:(List Int)) (r_:Bool) (X1:Prop):Nat→Int→Prop
 | 0,_=>False
 | k_0+1,i9=>((decide (i9<(a_.length:Int)))=true→∃e17:Int,at? a_ i9=some e17∧∃e19:Int,at? b_ i9=some e19∧(((e17 != e19))=true→r_=false)∧(((e17 != e19))=false→(InR .i64 (i9+1))∧zb2.l1 a_ b_ r_ X1 k_0 (i9+1)))∧((decide (i9<(a_.length:Int)))=false→X1)
def zb2 (a_:(List Int)) (b_:(List Int)) (r_:Bool):Prop:=((((a_.length:Int) != (b_.length:Int)))=true→r_=false)∧((((a_.length:Int) != (b_.length:Int)))=false→∃k10,zb2.l1 a_ b_ r_ (zb2.j1 r_) k10 0)
set_option maxRecDepth 100000
theorem split_Refine_1_ok {a_:Cl} {r_:Int} (h:zdm a_ r_):Fn Tryz.prog 165 [(Pd.rep En.cls a_)] (Rq (Pi r_)):=by
 unfold zdm at h
 refine fn_of Tryz.func165 J Tryz.ntmps165 (by rfl) (by simp) fun s0 a L=>?_
 refine wp_seq_k fun K1 hK1=>rg (sx 1 (t_box (o_t 0 J) J J) L fun a s _ L=>?_)
 refine sx 2 (zd oI J J) L fun a s _ L=>en' (hK1 _ _ ?_)
 refine wp_seq_k fun K2 hK2=>?_
 obtain ⟨r3,h4,h⟩:=h
 refine rg (sx 6 (zo ty51 (o_t 1 J) J J) L fun a s _ L=>?_)
 refine sx 7 (zu ((class_Least_ok h4).tup) (xs:=[.tmp 6]) (.cons (o_t 6 J) .nil) J J) L fun a s _ L=>sx 5 (zb (o_t 7 J) J J) L fun a s _ L=>sx 8 (t_ext0 (o_t 5 J) J J) L fun a s _ L=>sx 9 (t_ext1 (o_t 5 J) J J) L fun a s _ L=>sx 3 (zd (o_t 8 J) J J) L fun a s _ L=>sx 4 (zd (o_t 9 J) J J) L fun a s _ L=>en' (hK2 _ _ ?_)
 refine wp_seq_k fun K5 hK5=>rg (sx 10 (zb (o_t 3 J) J J) L fun a s _ L=>?_)
 refine sx 11 (t_up (o_t 10 J) (by decide) Tryz.underlying5 Tryz.underlying3 J J) L fun a s _ L=>sx 2 (zd (o_t 11 J) J J) L fun a s _ L=>en' (hK5 _ _ ?_)
 subst h
 exact wp_ret (retq J L J)
theorem split_Refine_2_ok {a_:Cl} {b_:Cl} {cap0_:(Cl × Int→Prop)} {r_:Int} (h:zd3 a_ b_ cap0_ r_):Fn Tryz.prog 167 [(Pd.rep En.cls a_),(Pd.rep En.cls b_),(Pd.ptr EnF209 cap0_)] (Rq (Pi r_)):=by
 unfold zd3 at h
 refine fn_of Tryz.func167 J Tryz.ntmps167 (by rfl) (by simp) fun s0 a L=>?_
 refine wp_seq_k fun K1 hK1=>rg (sx 3 (t_box (o_t 0 J) J J) L fun a s _ L=>?_)
 refine sx 4 (t_box (o_t 1 J) J J) L fun a s _ L=>sx 5 (zd oI J J) L fun a s _ L=>en' (hK1 _ _ ?_)
 refine wp_seq_k fun K2 hK2=>?_
 obtain ⟨r3,h4,r5,h6,h7,h⟩:=h
 refine rda zbk 7 [(Pd.rep EnF209 cap0_),(Pd.rep En.cls a_),(Pi r3),(Pd.rep EnF209 cap0_),(Pd.rep En.cls b_),(Pi r5),(Pi (r3-r5))] L (by kernel_rfl) J J ?_ ?_
 ·refine AllT.cons (zo ty209 (o_t 2 J) J J) ?_
  refine AllT.cons (zo ty51 (o_t 3 J) J J) (AllT.cons (t_callf (q:=(a_,r3)) (o_t 6 J) h4 (xs:=[.tmp 7]) (.cons (o_t 7 J) .nil) (fun _ _ _ h_=>h_) J J) ?_)
  refine AllT.cons (zo ty209 (o_t 2 J) J J) (AllT.cons (zo ty51 (o_t 4 J) J J) ?_)
  refine AllT.cons (t_callf (q:=(b_,r5)) (o_t 9 J) h6 (xs:=[.tmp 10]) (.cons (o_t 10 J) .nil) (fun _ _ _ h_=>h_) J J) (AllT.cons (t_sub (o_t 8 J) (o_t 11 J) h7 J J) ?_)
  exact AllT.nil
 intro a s _ L
 refine sx 5 (zd (o_t 12 J) J J) L fun a s _ L=>en' (hK2 _ _ ?_)
 subst h
 exact wp_ret (retq J L J)
theorem split_Refine_ok {parts_:(List Cl)} {a_:Cl} {r_:(List Cl)} (h:zz parts_ a_ r_):Fn Tryz.prog 136 [(Pd.rep (En.slice En.cls) parts_),(Pd.rep En.cls a_)] (Ro En.cls 51 r_):=by
 unfold zz at h
 refine fn_of Tryz.func136 J Tryz.ntmps136 (by rfl) (by simp) fun s0 a L=>?_
 refine wp_seq_k fun K1 hK1=>rg (sx 3 (t_box (o_t 1 J) J J) L fun a s _ L=>?_)
 refine sx 4 (zd (o_nil (E:=En.cls) (N:=s0.w.heap.size) (te:=51)) J J) L fun a s _ L=>en' (hK1 _ _ ?_)
 refine wp_seq_k fun K2 hK2=>rg (sx 5 (zd (o_nil (E:=En.cls) (N:=s0.w.heap.size) (te:=51)) J J) L fun a s _ L=>?_)
 refine en' (hK2 _ _ ?_)
 refine wp_seq_k fun K3 hK3=>wp_seq_k fun K4 hK4=>rg (sx 11 (zb (o_t 0 J) J J) L fun a s _ L=>?_)
 refine sx 12 (t_len (o_t 11 J) Tryz.underlying36 J J) L fun a s _ L=>sx 13 (zb oI J J) L fun a s _ L=>en' (hK4 _ _ ?_)
 refine wp_block ?_
 have J7:∀(out5:(List Cl)) (og6:Option Nat) (a:Act) (s:St),Has N0 43 s0 a s [(5,(Pd.row En.cls s0.w.heap.size 51 og6 out5))]→((zz.j1 r_) out5)→K3 a s.w:=by
  intro out5 og6 a s L h
  unfold zz.j1 at h
  show K3 a s.w
  refine hK3 _ _ (wp_seq_k fun K8 hK8=>?_)
  refine rg ?_
  have lt_d10:=L.rlt 5 rfl
  refine zbb EnF209 (z:=(fun _=>False)) 10 L tyz209 J J J J fun a s g9 hg_ L=>?_
  have d10:Dis (some g9) og6:=Dis.newg hg_ lt_d10
  refine zca (L':=[(5,(Pd.row En.cls s0.w.heap.size 51 og6 out5))]) 10 L J (o_q (Pd.rep EnF209 (fun q_=>zdm q_.1 q_.2)) (o_fun (call_of Tryz.func165 J (by rfl)) (fun q_ h_=>split_Refine_1_ok h_))) ty209 J J J (.cons (t:=5) J (Dis.ow (Dis.symm d10)) .nil) fun s L=>?_
  refine en' (hK8 _ _ ?_)
  refine wp_seq_k fun K11 hK11=>?_
  obtain ⟨s13,h12,L⟩:=L.freezeb (L':=[(5,(Pd.row En.cls s0.w.heap.size 51 og6 out5))]) 10 rfl (.cons (t:=5) rfl (Dis.ow (Dis.symm d10)) .nil)
  rw [← h12]
  clear h12
  generalize s13=s at *
  obtain ⟨r14,h15,h⟩:=h
  refine rg (sx 39 (zb (o_t 5 J) J J) L fun a s _ L=>?_)
  refine sx 40 (t_q (Pd.rep EnF211 (fun q_=>zd3 q_.1 q_.2.1 (fun q_=>zdm q_.1 q_.2) q_.2.2)) (t_mkfun (cs:=[.tmp 10]) (.cons (o_t 10 J) .nil) (call_of Tryz.func167 J (by rfl)) (enc_cons enc_ptr enc_nil) (fun q_ h_=>split_Refine_2_ok h_) J J)) L fun a s _ L=>st_callr (L':=[(5,(Pd.row En.cls s0.w.heap.size 51 og6 r14))]) 41 (fun v0=>zde v0 h15) L (o_t 39 J) (zs:=[.tmp 40]) (.cons (o_t 40 J) .nil) J J J J (.turn (t:=5) J .nil) fun a s L=>?_
  refine en' (hK11 _ _ ?_)
  refine wp_seq_k fun K16 hK16=>rg (sx 42 (zb (o_t 5 J) J J) L fun a s _ L=>?_)
  refine sx 4 (zd (o_t 42 J) J J) L fun a s _ L=>en' (hK16 _ _ ?_)
  subst h
  exact wp_ret (reto J L J)
 obtain ⟨k20,h⟩:=h
 refine lpg (fun k21 a s=>∃(out17:(List Cl)) (v19:Int) (og18:Option Nat),Has N0 43 s0 a s [(3,(Pd.ptr En.cls a_)),(5,(Pd.row En.cls s0.w.heap.size 51 og18 out17)),(11,(Pd.rep (En.slice En.cls) parts_)),(12,(Pi (parts_.length:Int))),(13,(Pi v19))]∧zz.l1 parts_ a_ (zz.j1 r_) k21 out17 v19) k20 ⟨([]:(List Cl)),0,none,L.keep (.k 3 (.cons (t:=5) J (fun _ _ h_=>h_) (.k 11 (.k 12 (.k 13 .nil))))),h⟩ ?_
 rintro k21 a s ⟨out17,v19,og18,L,h⟩ KL22 hKL22
 cases k21 with
 | zero=>exact h.elim
 | succ k21=>
 unfold zz.l1 at h
 refine wp_seq_k fun K23 hK23=>rg (sx 14 (t_lss (o_t 13 J) (o_t 12 J) J J) L fun a s _ L=>?_)
 refine en' (hK23 _ _ ?_)
 refine wp_seq_k fun K24 hK24=>cnd L J (fun hb_=>?_) (fun hb_=>?_)
 ·replace h:=h.1 hb_
  refine wp_skip ?_
  show K24 a s.w
  refine hK24 _ _ (wp_seq_k fun K25 hK25=>?_)
  refine wp_block (wp_seq_k fun K26 hK26=>?_)
  obtain ⟨e27,h28,h⟩:=h
  refine rg (sx 15 (t_idx (o_t 11 J) (o_t 13 J) h28 Tryz.underlying36 ty51 J J) L fun a s _ L=>?_)
  refine sx 16 (zo ty51 (o_t 15 J) J J) L fun a s _ L=>?_
  have lt_d30:=L.rlt 5 rfl
  refine zbb En.cls (z:=(0#256)) 7 L tyz51 J J J J fun a s g29 hg_ L=>?_
  have d30:Dis (some g29) og18:=Dis.newg hg_ lt_d30
  refine zca (L':=[(3,(Pd.ptr En.cls a_)),(5,(Pd.row En.cls s0.w.heap.size 51 og18 out17)),(11,(Pd.rep (En.slice En.cls) parts_)),(12,(Pi (parts_.length:Int))),(13,(Pi v19))]) 7 L J (o_t 16 J) ty51 J J J (.k 3 (.cons (t:=5) J (Dis.ow (Dis.symm d30)) (.k 11 (.k 12 (.k 13 .nil))))) fun s L=>?_
  refine en' (hK26 _ _ ?_)
  refine wp_seq_k fun K31 hK31=>?_
  obtain ⟨r32,h33,r34,h35,r36,h37,h⟩:=h
  refine rda zbk 10 [(Pd.rep En.cls e27),(Pd.rep En.cls a_),(Pd.rep En.cls r32),(Pd.rep En.cls e27),(Pd.rep En.cls a_),(Pd.rep En.cls r34),(Pd.rep En.cls r36),(Pd.rep (En.slice En.cls) [r32,r36]),(Pi ([r32,r36].length:Int)),(Pi 0)] L (by kernel_rfl) J J ?_ ?_
  ·refine AllT.cons (zbh ty51 (o_t 7 J) J J) ?_
   refine AllT.cons (zo ty51 (o_t 3 J) J J) (AllT.cons (zu (class_Both_ok h33) (xs:=[.tmp 17,.tmp 18]) (.cons (o_t 17 J) (.cons (o_t 18 J) .nil)) J J) ?_)
   refine AllT.cons (zbh ty51 (o_t 7 J) J J) (AllT.cons (zo ty51 (o_t 3 J) J J) ?_)
   refine AllT.cons (zu (class_Not_ok h35) (xs:=[.tmp 21]) (.cons (o_t 21 J) .nil) J J) (AllT.cons (zu (class_Both_ok h37) (xs:=[.tmp 20,.tmp 22]) (.cons (o_t 20 J) (.cons (o_t 22 J) .nil)) J J) ?_)
   refine AllT.cons (t_lit (xs:=[.tmp 19,.tmp 23]) (.cons (o_t 19 J) (.cons (o_t 23 J) .nil)) Tryz.underlying36 ty51 J J (by decide) J J) (AllT.cons (t_len (o_t 24 J) Tryz.underlying36 J J) ?_)
   refine AllT.cons (zb oI J J) ?_
   exact AllT.nil
  intro a s _ L
  refine en' (hK31 _ _ ?_)
  refine wp_block ?_
  have J40:∀(out38:(List Cl)) (og39:Option Nat) (a:Act) (s:St),Has N0 43 s0 a s [(3,(Pd.ptr En.cls a_)),(5,(Pd.row En.cls s0.w.heap.size 51 og39 out38)),(11,(Pd.rep (En.slice En.cls) parts_)),(12,(Pi (parts_.length:Int))),(13,(Pi v19))]→((zz.j2 (zz.l1 parts_ a_ (zz.j1 r_) k21) v19) out38)→K25 a s.w:=by
   intro out38 og39 a s L h
   unfold zz.j2 at h
   show K25 a s.w
   refine hK25 _ _ ?_
   obtain ⟨h41,h⟩:=h
   refine rg (sx 38 (t_add (o_t 13 J) oI h41 J J) L fun a s _ L=>?_)
   refine sx 13 (zb (o_t 38 J) J J) L fun a s _ L=>en' ?_
   exact hKL22 k21 a s (Nat.lt_succ_self _) ⟨out38,(v19+1),og39,L.keep (.k 3 (.cons (t:=5) J (fun _ _ h_=>h_) (.k 11 (.k 12 (.k 13 .nil))))),h⟩
  obtain ⟨k45,h⟩:=h
  refine lpg (fun k46 a s=>∃(out42:(List Cl)) (v44:Int) (og43:Option Nat),Has N0 43 s0 a s [(3,(Pd.ptr En.cls a_)),(5,(Pd.row En.cls s0.w.heap.size 51 og43 out42)),(11,(Pd.rep (En.slice En.cls) parts_)),(12,(Pi (parts_.length:Int))),(13,(Pi v19)),(24,(Pd.rep (En.slice En.cls) [r32,r36])),(25,(Pi ([r32,r36].length:Int))),(26,(Pi v44))]∧zz.l2 r32 r36 (zz.j2 (zz.l1 parts_ a_ (zz.j1 r_) k21) v19) k46 out42 v44) k45 ⟨out17,0,og18,L.keep (.k 3 (.cons (t:=5) J (fun _ _ h_=>h_) (.k 11 (.k 12 (.k 13 (.k 24 (.k 25 (.k 26 .nil)))))))),h⟩ ?_
  rintro k46 a s ⟨out42,v44,og43,L,h⟩ KL47 hKL47
  cases k46 with
  | zero=>exact h.elim
  | succ k46=>
  unfold zz.l2 at h
  refine wp_seq_k fun K48 hK48=>rg (sx 27 (t_lss (o_t 26 J) (o_t 25 J) J J) L fun a s _ L=>?_)
  refine en' (hK48 _ _ ?_)
  refine wp_seq_k fun K49 hK49=>cnd L J (fun hb_=>?_) (fun hb_=>?_)
  ·replace h:=h.1 hb_
   refine wp_skip ?_
   show K49 a s.w
   refine hK49 _ _ (wp_seq_k fun K50 hK50=>?_)
   refine wp_block (wp_seq_k fun K51 hK51=>?_)
   obtain ⟨e52,h53,h⟩:=h
   refine rg (sx 28 (t_idx (o_t 24 J) (o_t 26 J) h53 Tryz.underlying36 ty51 J J) L fun a s _ L=>?_)
   refine sx 29 (zo ty51 (o_t 28 J) J J) L fun a s _ L=>?_
   have lt_d55:=L.rlt 5 rfl
   refine zbb En.cls (z:=(0#256)) 9 L tyz51 J J J J fun a s g54 hg_ L=>?_
   have d55:Dis (some g54) og43:=Dis.newg hg_ lt_d55
   refine zca (L':=[(3,(Pd.ptr En.cls a_)),(5,(Pd.row En.cls s0.w.heap.size 51 og43 out42)),(11,(Pd.rep (En.slice En.cls) parts_)),(12,(Pi (parts_.length:Int))),(13,(Pi v19)),(24,(Pd.rep (En.slice En.cls) [r32,r36])),(25,(Pi ([r32,r36].length:Int))),(26,(Pi v44))]) 9 L J (o_t 29 J) ty51 J J J (.k 3 (.cons (t:=5) J (Dis.ow (Dis.symm d55)) (.k 11 (.k 12 (.k 13 (.k 24 (.k 25 (.k 26 .nil)))))))) fun s L=>?_
   refine en' (hK51 _ _ ?_)
   refine wp_seq_k fun K56 hK56=>?_
   obtain ⟨r57,h58,h⟩:=h
   refine rg (sx 30 (zbh ty51 (o_t 9 J) J J) L fun a s _ L=>?_)
   refine sx 31 (zu (class_Count_ok h58) (xs:=[.tmp 30]) (.cons (o_t 30 J) .nil) J J) L fun a s _ L=>sx 32 (t_gtr (o_t 31 J) oI J J) L fun a s _ L=>en' (hK56 _ _ ?_)
   refine cnd L J (fun hb_=>?_) (fun hb_=>?_)
   ·obtain ⟨h59,h⟩:=h.1 hb_
    refine rg (sx 33 (zb (o_t 5 J) J J) L fun a s _ L=>?_)
    refine sx 34 (zbh ty51 (o_t 9 J) J J) L fun a s _ L=>sx 35 (t_lit (xs:=[.tmp 34]) (.cons (o_t 34 J) .nil) Tryz.underlying36 ty51 J J (by decide) J J) L fun a s _ L=>zd2 (L':=[(3,(Pd.ptr En.cls a_)),(11,(Pd.rep (En.slice En.cls) parts_)),(12,(Pi (parts_.length:Int))),(13,(Pi v19)),(24,(Pd.rep (En.slice En.cls) [r32,r36])),(25,(Pi ([r32,r36].length:Int))),(26,(Pi v44))]) 36 L (o_t 33 J) (o_t 35 J) Tryz.underlying36 ty51 h59 J J J J (.k 3 (.k 11 (.k 12 (.k 13 (.k 24 (.k 25 (.k 26 .nil))))))) fun a s og60 hg_ L=>?_
    refine sx 5 (zd (o_t 36 J) J J) L fun a s _ L=>en' (hK50 _ _ ?_)
    obtain ⟨h61,h⟩:=h
    refine rg (sx 37 (t_add (o_t 26 J) oI h61 J J) L fun a s _ L=>?_)
    refine sx 26 (zb (o_t 37 J) J J) L fun a s _ L=>en' ?_
    exact hKL47 k46 a s (Nat.lt_succ_self _) ⟨(out42++[e52]),(v44+1),og60,L.keep (.k 3 (.cons (t:=5) J (fun _ _ h_=>h_) (.k 11 (.k 12 (.k 13 (.k 24 (.k 25 (.k 26 .nil)))))))),h⟩
   ·replace h:=h.2 hb_
    refine wp_skip ?_
    show K50 a s.w
    refine hK50 _ _ ?_
    obtain ⟨h62,h⟩:=h
    refine rg (sx 37 (t_add (o_t 26 J) oI h62 J J) L fun a s _ L=>?_)
    refine sx 26 (zb (o_t 37 J) J J) L fun a s _ L=>en' ?_
    exact hKL47 k46 a s (Nat.lt_succ_self _) ⟨out42,(v44+1),og43,L.keep (.k 3 (.cons (t:=5) J (fun _ _ h_=>h_) (.k 11 (.k 12 (.k 13 (.k 24 (.k 25 (.k 26 .nil)))))))),h⟩
  ·replace h:=h.2 hb_
   refine wp_exit ?_
   exact J40 out42 og43 a s (L.keep (.k 3 (.cons (t:=5) J (fun _ _ h_=>h_) (.k 11 (.k 12 (.k 13 .nil)))))) h
 ·replace h:=h.2 hb_
  refine wp_exit ?_
  exact J7 out17 og18 a s (L.keep (.cons (t:=5) J (fun _ _ h_=>h_) .nil)) h
theorem split_Parts_ok {list_:(List Cl)} {r_:(List Cl)} (h:zb5 list_ r_):Fn Tryz.prog 103 [(Pd.rep (En.slice En.cls) list_)] (Ro En.cls 51 r_):=by
 unfold zb5 at h
 refine fn_of Tryz.func103 J Tryz.ntmps103 (by rfl) (by simp) fun s0 a L=>?_
 refine wp_seq_k fun K1 hK1=>rg (sx 2 (zd (o_nil (E:=En.cls) (N:=s0.w.heap.size) (te:=51)) J J) L fun a s _ L=>?_)
 refine en' (hK1 _ _ ?_)
 refine wp_seq_k fun K2 hK2=>?_
 obtain ⟨r3,h4,h⟩:=h
 refine rg (sx 6 (t_bcls (x:=(0#256)) Tryz.underlying51 (by rfl) tyz51 (fun _=>by kernel_rfl) J J) L fun a s _ L=>?_)
 refine sx 7 (zu (class_Not_ok h4) (xs:=[.tmp 6]) (.cons (o_t 6 J) .nil) J J) L fun a s _ L=>st_lito (xs:=[.tmp 7]) 8 L (.cons (o_t 7 J) .nil) Tryz.underlying36 ty51 J J (by decide) J J J J fun a s g5 hg_ L=>?_
 refine sx 3 (zd (o_t 8 J) J J) L fun a s _ L=>en' (hK2 _ _ ?_)
 refine wp_seq_k fun K6 hK6=>wp_seq_k fun K7 hK7=>rg (sx 9 (zb (o_t 0 J) J J) L fun a s _ L=>?_)
 refine sx 10 (t_len (o_t 9 J) Tryz.underlying36 J J) L fun a s _ L=>sx 11 (zb oI J J) L fun a s _ L=>en' (hK7 _ _ ?_)
 refine wp_block ?_
 have J10:∀(out8:(List Cl)) (og9:Option Nat) (a:Act) (s:St),Has N0 20 s0 a s [(3,(Pd.row En.cls s0.w.heap.size 51 og9 out8))]→((zb5.j1 r_) out8)→K6 a s.w:=by
  intro out8 og9 a s L h
  unfold zb5.j1 at h
  show K6 a s.w
  refine hK6 _ _ (wp_seq_k fun K11 hK11=>?_)
  refine rg (sx 19 (zb (o_t 3 J) J J) L fun a s _ L=>?_)
  refine sx 2 (zd (o_t 19 J) J J) L fun a s _ L=>en' (hK11 _ _ ?_)
  subst h
  exact wp_ret (reto J L J)
 obtain ⟨k15,h⟩:=h
 refine lpg (fun k16 a s=>∃(out12:(List Cl)) (v14:Int) (og13:Option Nat),Has N0 20 s0 a s [(3,(Pd.row En.cls s0.w.heap.size 51 og13 out12)),(9,(Pd.rep (En.slice En.cls) list_)),(10,(Pi (list_.length:Int))),(11,(Pi v14))]∧zb5.l1 list_ (zb5.j1 r_) k16 out12 v14) k15 ⟨[r3],0,(some g5),L.keep (.cons (t:=3) J (fun _ _ h_=>h_) (.k 9 (.k 10 (.k 11 .nil)))),h⟩ ?_
 rintro k16 a s ⟨out12,v14,og13,L,h⟩ KL17 hKL17
 cases k16 with
 | zero=>exact h.elim
 | succ k16=>
 unfold zb5.l1 at h
 refine wp_seq_k fun K18 hK18=>rg (sx 12 (t_lss (o_t 11 J) (o_t 10 J) J J) L fun a s _ L=>?_)
 refine en' (hK18 _ _ ?_)
 refine wp_seq_k fun K19 hK19=>cnd L J (fun hb_=>?_) (fun hb_=>?_)
 ·replace h:=h.1 hb_
  refine wp_skip ?_
  show K19 a s.w
  refine hK19 _ _ (wp_seq_k fun K20 hK20=>?_)
  refine wp_block (wp_seq_k fun K21 hK21=>?_)
  obtain ⟨e22,h23,h⟩:=h
  refine rg (sx 13 (t_idx (o_t 9 J) (o_t 11 J) h23 Tryz.underlying36 ty51 J J) L fun a s _ L=>?_)
  refine sx 14 (zo ty51 (o_t 13 J) J J) L fun a s _ L=>?_
  have lt_d25:=L.rlt 3 rfl
  refine zbb En.cls (z:=(0#256)) 5 L tyz51 J J J J fun a s g24 hg_ L=>?_
  have d25:Dis (some g24) og13:=Dis.newg hg_ lt_d25
  refine zca (L':=[(3,(Pd.row En.cls s0.w.heap.size 51 og13 out12)),(9,(Pd.rep (En.slice En.cls) list_)),(10,(Pi (list_.length:Int))),(11,(Pi v14))]) 5 L J (o_t 14 J) ty51 J J J (.cons (t:=3) J (Dis.ow (Dis.symm d25)) (.k 9 (.k 10 (.k 11 .nil)))) fun s L=>?_
  refine en' (hK21 _ _ ?_)
  obtain ⟨s27,h26,L⟩:=L.freeze (L':=[(5,(Pd.box En.cls s0.w.heap.size g24 e22)),(9,(Pd.rep (En.slice En.cls) list_)),(10,(Pi (list_.length:Int))),(11,(Pi v14))]) 3 rfl (.cons (t:=5) rfl (Dis.bx d25) (.cons (t:=9) rfl nE (.cons (t:=10) rfl nE (.cons (t:=11) rfl nE .nil))))
  rw [← h26]
  clear h26
  generalize s27=s at *
  obtain ⟨r28,h29,h⟩:=h
  refine rg (sx 15 (zb (o_t 3 J) J J) L fun a s _ L=>?_)
  refine sx 16 (zbh ty51 (o_t 5 J) J J) L fun a s _ L=>?_
  have lt_d31:=L.blt 5 rfl
  refine zcb 17 L (split_Refine_ok h29) (xs:=[.tmp 15,.tmp 16]) (.cons (o_t 15 J) (.cons (o_t 16 J) .nil)) J J J J fun a s og30 hg_ L=>?_
  have d31:Dis og30 (some g24):=Dis.new hg_ lt_d31
  refine sx 3 (zd (o_t 17 J) J J) L fun a s _ L=>en' (hK20 _ _ ?_)
  obtain ⟨h32,h⟩:=h
  refine rg (sx 18 (t_add (o_t 11 J) oI h32 J J) L fun a s _ L=>?_)
  refine sx 11 (zb (o_t 18 J) J J) L fun a s _ L=>en' ?_
  exact hKL17 k16 a s (Nat.lt_succ_self _) ⟨r28,(v14+1),og30,L.keep (.cons (t:=3) J (fun _ _ h_=>h_) (.k 9 (.k 10 (.k 11 .nil)))),h⟩
 ·replace h:=h.2 hb_
  refine wp_exit ?_
  exact J10 out12 og13 a s (L.keep (.cons (t:=3) J (fun _ _ h_=>h_) .nil)) h
theorem split_Heads_ok {list_:(List Cl)} {r_:(List Int)} (h:zb6 list_ r_):Fn Tryz.prog 65 [(Pd.rep (En.slice En.cls) list_)] (Ro (En.int .u8) 5 r_):=by
 unfold zb6 at h
 refine fn_of Tryz.func65 J Tryz.ntmps65 (by rfl) (by simp) fun s0 a L=>?_
 refine wp_seq_k fun K1 hK1=>rg (sx 2 (zd (o_nil (E:=(En.int .u8)) (N:=s0.w.heap.size) (te:=5)) J J) L fun a s _ L=>?_)
 refine en' (hK1 _ _ ?_)
 refine wp_seq_k fun K2 hK2=>rg (sx 3 (zd (o_nil (E:=(En.int .u8)) (N:=s0.w.heap.size) (te:=5)) J J) L fun a s _ L=>?_)
 refine en' (hK2 _ _ ?_)
 refine wp_seq_k fun K3 hK3=>wp_seq_k fun K4 hK4=>?_
 obtain ⟨r5,h6,h⟩:=h
 refine rg (sx 8 (zb (o_t 0 J) J J) L fun a s _ L=>?_)
 refine sx 9 (zu ((split_Parts_ok h6).frz) (xs:=[.tmp 8]) (.cons (o_t 8 J) .nil) J J) L fun a s _ L=>sx 10 (t_len (o_t 9 J) Tryz.underlying36 J J) L fun a s _ L=>sx 11 (zb oI J J) L fun a s _ L=>en' (hK4 _ _ ?_)
 refine wp_block ?_
 have J9:∀(out7:(List Int)) (og8:Option Nat) (a:Act) (s:St),Has N0 26 s0 a s [(3,(Pd.row (En.int .u8) s0.w.heap.size 5 og8 out7))]→((zb6.j1 r_) out7)→K3 a s.w:=by
  intro out7 og8 a s L h
  unfold zb6.j1 at h
  show K3 a s.w
  refine hK3 _ _ (wp_seq_k fun K10 hK10=>?_)
  refine rg (sx 25 (zb (o_t 3 J) J J) L fun a s _ L=>?_)
  refine sx 2 (zd (o_t 25 J) J J) L fun a s _ L=>en' (hK10 _ _ ?_)
  subst h
  exact wp_ret (reto J L J)
 obtain ⟨k14,h⟩:=h
 refine lpg (fun k15 a s=>∃(out11:(List Int)) (v13:Int) (og12:Option Nat),Has N0 26 s0 a s [(3,(Pd.row (En.int .u8) s0.w.heap.size 5 og12 out11)),(9,(Pd.rep (En.slice En.cls) r5)),(10,(Pi (r5.length:Int))),(11,(Pi v13))]∧zb6.l1 r5 (zb6.j1 r_) k15 out11 v13) k14 ⟨([]:(List Int)),0,none,L.keep (.cons (t:=3) J (fun _ _ h_=>h_) (.k 9 (.k 10 (.k 11 .nil)))),h⟩ ?_
 rintro k15 a s ⟨out11,v13,og12,L,h⟩ KL16 hKL16
 cases k15 with
 | zero=>exact h.elim
 | succ k15=>
 unfold zb6.l1 at h
 refine wp_seq_k fun K17 hK17=>rg (sx 12 (t_lss (o_t 11 J) (o_t 10 J) J J) L fun a s _ L=>?_)
 refine en' (hK17 _ _ ?_)
 refine wp_seq_k fun K18 hK18=>cnd L J (fun hb_=>?_) (fun hb_=>?_)
 ·replace h:=h.1 hb_
  refine wp_skip ?_
  show K18 a s.w
  refine hK18 _ _ (wp_seq_k fun K19 hK19=>?_)
  refine wp_block (wp_seq_k fun K20 hK20=>?_)
  obtain ⟨e21,h22,h⟩:=h
  refine rg (sx 13 (t_idx (o_t 9 J) (o_t 11 J) h22 Tryz.underlying36 ty51 J J) L fun a s _ L=>?_)
  refine sx 14 (zo ty51 (o_t 13 J) J J) L fun a s _ L=>?_
  have lt_d24:=L.rlt 3 rfl
  refine zbb En.cls (z:=(0#256)) 5 L tyz51 J J J J fun a s g23 hg_ L=>?_
  have d24:Dis (some g23) og12:=Dis.newg hg_ lt_d24
  refine zca (L':=[(3,(Pd.row (En.int .u8) s0.w.heap.size 5 og12 out11)),(9,(Pd.rep (En.slice En.cls) r5)),(10,(Pi (r5.length:Int))),(11,(Pi v13))]) 5 L J (o_t 14 J) ty51 J J J (.cons (t:=3) J (Dis.ow (Dis.symm d24)) (.k 9 (.k 10 (.k 11 .nil)))) fun s L=>?_
  refine en' (hK20 _ _ ?_)
  refine wp_seq_k fun K25 hK25=>?_
  obtain ⟨r26,h27,h⟩:=h
  refine rg (sx 16 (zbh ty51 (o_t 5 J) J J) L fun a s _ L=>?_)
  refine sx 17 (zu ((class_Least_ok h27).tup) (xs:=[.tmp 16]) (.cons (o_t 16 J) .nil) J J) L fun a s _ L=>sx 15 (zb (o_t 17 J) J J) L fun a s _ L=>sx 18 (t_ext0 (o_t 15 J) J J) L fun a s _ L=>sx 19 (t_ext1 (o_t 15 J) J J) L fun a s _ L=>sx 6 (zd (o_t 18 J) J J) L fun a s _ L=>sx 7 (zd (o_t 19 J) J J) L fun a s _ L=>en' (hK25 _ _ ?_)
  obtain ⟨h28,h⟩:=h
  refine rg (sx 20 (zb (o_t 3 J) J J) L fun a s _ L=>?_)
  refine sx 21 (zb (o_t 6 J) J J) L fun a s _ L=>sx 22 (t_lit (xs:=[.tmp 21]) (.cons (o_t 21 J) .nil) Tryz.underlying26 ty5 J J (by decide) J J) L fun a s _ L=>zd2 (L':=[(9,(Pd.rep (En.slice En.cls) r5)),(10,(Pi (r5.length:Int))),(11,(Pi v13))]) 23 L (o_t 20 J) (o_t 22 J) Tryz.underlying26 ty5 h28 J J J J (.k 9 (.k 10 (.k 11 .nil))) fun a s og29 hg_ L=>?_
  refine sx 3 (zd (o_t 23 J) J J) L fun a s _ L=>en' (hK19 _ _ ?_)
  obtain ⟨h30,h⟩:=h
  refine rg (sx 24 (t_add (o_t 11 J) oI h30 J J) L fun a s _ L=>?_)
  refine sx 11 (zb (o_t 24 J) J J) L fun a s _ L=>en' ?_
  exact hKL16 k15 a s (Nat.lt_succ_self _) ⟨(out11++[r26.1]),(v13+1),og29,L.keep (.cons (t:=3) J (fun _ _ h_=>h_) (.k 9 (.k 10 (.k 11 .nil)))),h⟩
 ·replace h:=h.2 hb_
  refine wp_exit ?_
  exact J9 out11 og12 a s (L.keep (.cons (t:=3) J (fun _ _ h_=>h_) .nil)) h
theorem ref02_Bytes_ok {a_:(List Int)} {b_:(List Int)} {r_:Bool} (h:zb2 a_ b_ r_):Fn Tryz.prog 23 [(Pd.rep (En.slice (En.int .u8)) a_),(Pd.rep (En.slice (En.int .u8)) b_)] (Rq (Pd.rep En.bool r_)):=by
 unfold zb2 at h
 refine fn_of Tryz.func23 J Tryz.ntmps23 (by rfl) (by simp) fun s0 a L=>?_
 refine wp_seq_k fun K1 hK1=>rg (sx 4 (zd o_b J J) L fun a s _ L=>?_)
 refine en' (hK1 _ _ ?_)
 refine wp_seq_k fun K2 hK2=>wp_seq_k fun K3 hK3=>rg (sx 6 (zb (o_t 0 J) J J) L fun a s _ L=>?_)
 refine sx 7 (t_len (o_t 6 J) Tryz.underlying26 J J) L fun a s _ L=>sx 8 (zb (o_t 1 J) J J) L fun a s _ L=>sx 9 (t_len (o_t 8 J) Tryz.underlying26 J J) L fun a s _ L=>sx 10 (t_nei (o_t 7 J) (o_t 9 J) J J) L fun a s _ L=>en' (hK3 _ _ ?_)
 refine cnd L J (fun hb_=>?_) (fun hb_=>?_)
 ·replace h:=h.1 hb_
  refine wp_seq_k fun K4 hK4=>rg (sx 4 (zd o_b J J) L fun a s _ L=>?_)
  refine en' (hK4 _ _ ?_)
  subst h
  exact wp_ret (retq J L J)
 ·replace h:=h.2 hb_
  refine wp_skip ?_
  show K2 a s.w
  refine hK2 _ _ (wp_seq_k fun K5 hK5=>?_)
  refine wp_seq_k fun K6 hK6=>rg (sx 5 (zd oI J J) L fun a s _ L=>?_)
  refine en' (hK6 _ _ ?_)
  refine wp_block ?_
  have J7:∀(a:Act) (s:St),Has N0 26 s0 a s []→((zb2.j1 r_))→K5 a s.w:=by
   intro a s L h
   unfold zb2.j1 at h
   show K5 a s.w
   refine hK5 _ _ (wp_seq_k fun K8 hK8=>?_)
   refine rg (sx 4 (zd o_b J J) L fun a s _ L=>?_)
   refine en' (hK8 _ _ ?_)
   subst h
   exact wp_ret (retq J L J)
  obtain ⟨k10,h⟩:=h
  refine lpg (fun k11 a s=>∃(i9:Int),Has N0 26 s0 a s [(0,(Pd.rep (En.slice (En.int .u8)) a_)),(1,(Pd.rep (En.slice (En.int .u8)) b_)),(5,(Pi i9))]∧zb2.l1 a_ b_ r_ (zb2.j1 r_) k11 i9) k10 ⟨0,L.keep (.k 0 (.k 1 (.k 5 .nil))),h⟩ ?_
  rintro k11 a s ⟨i9,L,h⟩ KL12 hKL12
  cases k11 with
  | zero=>exact h.elim
  | succ k11=>
  unfold zb2.l1 at h
  refine wp_seq_k fun K13 hK13=>wp_seq_k fun K14 hK14=>rg (sx 11 (zb (o_t 5 J) J J) L fun a s _ L=>?_)
  refine sx 12 (zb (o_t 0 J) J J) L fun a s _ L=>sx 13 (t_len (o_t 12 J) Tryz.underlying26 J J) L fun a s _ L=>sx 14 (t_lss (o_t 11 J) (o_t 13 J) J J) L fun a s _ L=>en' (hK14 _ _ ?_)
  refine cnd L J (fun hb_=>?_) (fun hb_=>?_)
  ·replace h:=h.1 hb_
   refine wp_skip ?_
   show K13 a s.w
   refine hK13 _ _ (wp_seq_k fun K15 hK15=>?_)
   refine wp_block (wp_seq_k fun K16 hK16=>?_)
   obtain ⟨e17,h18,e19,h20,h⟩:=h
   refine rda zbk 9 [(Pd.rep (En.slice (En.int .u8)) a_),(Pi i9),(Pd.ptr (En.int .u8) e17),(Pd.rep (En.int .u8) e17),(Pd.rep (En.slice (En.int .u8)) b_),(Pi i9),(Pd.ptr (En.int .u8) e19),(Pd.rep (En.int .u8) e19),(Pd.rep En.bool (e17 != e19))] L (by kernel_rfl) J J ?_ ?_
   ·refine AllT.cons (zb (o_t 0 J) J J) ?_
    refine AllT.cons (zb (o_t 5 J) J J) (AllT.cons (t_idx (o_t 17 J) (o_t 18 J) h18 Tryz.underlying26 ty5 J J) ?_)
    refine AllT.cons (zo ty5 (o_t 19 J) J J) (AllT.cons (zb (o_t 1 J) J J) ?_)
    refine AllT.cons (zb (o_t 5 J) J J) (AllT.cons (t_idx (o_t 21 J) (o_t 22 J) h20 Tryz.underlying26 ty5 J J) ?_)
    refine AllT.cons (zo ty5 (o_t 23 J) J J) (AllT.cons (t_nei (o_t 20 J) (o_t 24 J) J J) ?_)
    exact AllT.nil
   intro a s _ L
   refine en' (hK16 _ _ ?_)
   refine cnd L J (fun hb_=>?_) (fun hb_=>?_)
   ·replace h:=h.1 hb_
    refine wp_seq_k fun K21 hK21=>rg (sx 4 (zd o_b J J) L fun a s _ L=>?_)
    refine en' (hK21 _ _ ?_)
    subst h
    exact wp_ret (retq J L J)
   ·replace h:=h.2 hb_
    refine wp_skip ?_
    show K15 a s.w
    refine hK15 _ _ ?_
    obtain ⟨h22,h⟩:=h
    refine rg (sx 15 (zb (o_t 5 J) J J) L fun a s _ L=>?_)
    refine sx 16 (t_add (o_t 15 J) oI h22 J J) L fun a s _ L=>sx 5 (zd (o_t 16 J) J J) L fun a s _ L=>en' ?_
    exact hKL12 k11 a s (Nat.lt_succ_self _) ⟨(i9+1),L.keep (.k 0 (.k 1 (.k 5 .nil))),h⟩
  ·replace h:=h.2 hb_
   refine wp_exit ?_
   exact J7 a s (L.keep .nil) h
def ref03_in (s_:Str) (i_:Int) (from_:Int) (to_:Int) (r_:Bool):Prop:=∃c3:Int,(((decide (i_<(s_.length:Int)))=true)→byte? s_ i_=some c3)∧∃b5:Bool,b5=((decide (i_<(s_.length:Int)))&&(decide (from_≤c3)))∧∃c7:Int,(((b5)=true)→byte? s_ i_=some c7)∧r_=(b5&&(decide (c7≤to_)))
def zbg.j1 (r_:Bool):Prop:=r_=true
def zbg.l1 (s_:Str) (r_:Bool) (X1:Prop):Nat→Int→Prop
 | 0,_=>False
 | k_0+1,i6=>((decide (i6<(s_.length:Int)))=true→∃c13:Int,byte? s_ i6=some c13∧(InR .i64 (i6+1))∧∃r17:Bool,ref03_in s_ (i6+1) 128 191 r17∧(InR .i64 (i6+2))∧∃r21:Bool,ref03_in s_ (i6+2) 128 191 r21∧(InR .i64 (i6+3))∧∃r25:Bool,ref03_in s_ (i6+3) 128 191 r25∧((decide (c13<128))=true→(InR .i64 (i6+1))∧zbg.l1 s_ r_ X1 k_0 (i6+1))∧((decide (c13<128))=false→∃b30:Bool,b30=(((decide (194≤c13))&&(decide (c13≤223)))&&r17)∧((b30)=true→(InR .i64 (i6+2))∧zbg.l1 s_ r_ X1 k_0 (i6+2))∧((b30)=false→((((c13==224))=true)→InR .i64 (i6+1))∧∃r35:Bool,((((c13==224))=true)→ref03_in s_ (i6+1) 160 191 r35)∧(((((c13==224)&&r35)&&r21))=true→(InR .i64 (i6+3))∧zbg.l1 s_ r_ X1 k_0 (i6+3))∧(((((c13==224)&&r35)&&r21))=false→∃b39:Bool,b39=(((decide (225≤c13))&&(decide (c13≤236)))||(c13==238))∧(((((b39||(c13==239))&&r17)&&r21))=true→(InR .i64 (i6+3))∧zbg.l1 s_ r_ X1 k_0 (i6+3))∧(((((b39||(c13==239))&&r17)&&r21))=false→((((c13==237))=true)→InR .i64 (i6+1))∧∃r44:Bool,((((c13==237))=true)→ref03_in s_ (i6+1) 128 159 r44)∧(((((c13==237)&&r44)&&r21))=true→(InR .i64 (i6+3))∧zbg.l1 s_ r_ X1 k_0 (i6+3))∧(((((c13==237)&&r44)&&r21))=false→((((c13==240))=true)→InR .i64 (i6+1))∧∃r49:Bool,((((c13==240))=true)→ref03_in s_ (i6+1) 144 191 r49)∧((((((c13==240)&&r49)&&r21)&&r25))=true→(InR .i64 (i6+4))∧zbg.l1 s_ r_ X1 k_0 (i6+4))∧((((((c13==240)&&r49)&&r21)&&r25))=false→∃b53:Bool,b53=(((decide (241≤c13))&&(decide (c13≤243)))&&r17)∧((((b53&&r21)&&r25))=true→(InR .i64 (i6+4))∧zbg.l1 s_ r_ X1 k_0 (i6+4))∧((((b53&&r21)&&r25))=false→((((c13==244))=true)→InR .i64 (i6+1))∧∃r58:Bool,((((c13==244))=true)→ref03_in s_ (i6+1) 128 143 r58)∧((((((c13==244)&&r58)&&r21)&&r25))=true→(InR .i64 (i6+4))∧zbg.l1 s_ r_ X1 k_0 (i6+4))∧((((((c13==244)&&r58)&&r21)&&r25))=false→r_=false)))))))))∧((decide (i6<(s_.length:Int)))=false→X1)
def zbg (s_:Str) (r_:Bool):Prop:=∃k7,zbg.l1 s_ r_ (zbg.j1 r_) k7 0
set_option maxRecDepth 100000
theorem zd7 {s_:Str} {i_:Int} {from_:Int} {to_:Int} {r_:Bool} (h:ref03_in s_ i_ from_ to_ r_):Fn Tryz.prog 168 [(Pd.rep En.str s_),(Pi i_),(Pi from_),(Pi to_)] (Rq (Pd.rep En.bool r_)):=by
 unfold ref03_in at h
 refine fn_of Tryz.func168 J Tryz.ntmps168 (by rfl) (by simp) fun s0 a L=>?_
 refine wp_seq_k fun K1 hK1=>rg (sx 8 (zd o_b J J) L fun a s _ L=>?_)
 refine en' (hK1 _ _ ?_)
 refine wp_seq_k fun K2 hK2=>?_
 obtain ⟨c3,h4,b5,h6,c7,h8,h⟩:=h
 refine rg (sx 9 (zb (o_t 1 J) J J) L fun a s _ L=>?_)
 refine sx 10 (zb (o_t 0 J) J J) L fun a s _ L=>sx 11 (t_slen (o_t 10 J) Tryz.underlying9 J J) L fun a s _ L=>sx 12 (t_lss (o_t 9 J) (o_t 11 J) J J) L fun a s _ L=>sx 13 (zb (o_t 12 J) J J) L fun a s _ L=>sx 14 (t_g1 J J J (fun hc_=>zb (o_t 0 J) J J)) L fun a s _ L=>sx 15 (t_g1 J J J (fun hc_=>zb (o_t 1 J) J J)) L fun a s _ L=>sx 16 (t_g1 J J J (fun hc_=>t_sidx (o_w hc_ 14 J) (o_w hc_ 15 J) (h4 hc_) Tryz.underlying9 J J)) L fun a s _ L=>sx 17 (t_g1 J J J (fun hc_=>t_up (o_w hc_ 16 J) (by decide) Tryz.underlying5 Tryz.underlying3 J J)) L fun a s _ L=>sx 18 (t_g1 J J J (fun hc_=>zb (o_t 2 J) J J)) L fun a s _ L=>?_
 refine sx 19 (t_g1 J J J (fun hc_=>t_geq (o_w hc_ 17 J) (o_w hc_ 18 J) J J)) L fun a s _ L=>sx 20 (h6 ▸ (t_and (o_t 13 J) (fun hc2_=>(o_w hc2_ 19 J)) J J)) L fun a s _ L=>sx 21 (zb (o_t 20 J) J J) L fun a s _ L=>sx 22 (t_g1 J J J (fun hc_=>zb (o_t 0 J) J J)) L fun a s _ L=>sx 23 (t_g1 J J J (fun hc_=>zb (o_t 1 J) J J)) L fun a s _ L=>sx 24 (t_g1 J J J (fun hc_=>t_sidx (o_w hc_ 22 J) (o_w hc_ 23 J) (h8 hc_) Tryz.underlying9 J J)) L fun a s _ L=>sx 25 (t_g1 J J J (fun hc_=>t_up (o_w hc_ 24 J) (by decide) Tryz.underlying5 Tryz.underlying3 J J)) L fun a s _ L=>sx 26 (t_g1 J J J (fun hc_=>zb (o_t 3 J) J J)) L fun a s _ L=>sx 27 (t_g1 J J J (fun hc_=>t_leq (o_w hc_ 25 J) (o_w hc_ 26 J) J J)) L fun a s _ L=>?_
 refine sx 28 (t_and (o_t 21 J) (fun hc2_=>(o_w hc2_ 27 J)) J J) L fun a s _ L=>sx 8 (zd (o_t 28 J) J J) L fun a s _ L=>en' (hK2 _ _ ?_)
 subst h
 exact wp_ret (retq J L J)
theorem ref03_Utf8_ok {s_:Str} {r_:Bool} (h:zbg s_ r_):Fn Tryz.prog 141 [(Pd.rep En.str s_)] (Rq (Pd.rep En.bool r_)):=by
 unfold zbg at h
 refine fn_of Tryz.func141 J Tryz.ntmps141 (by rfl) (by simp) fun s0 a L=>?_
 refine wp_seq_k fun K1 hK1=>rg (sx 2 (zd o_b J J) L fun a s _ L=>?_)
 refine en' (hK1 _ _ ?_)
 refine wp_seq_k fun K2 hK2=>rg (sx 3 (zd oI J J) L fun a s _ L=>?_)
 refine en' (hK2 _ _ ?_)
 refine wp_seq_k fun K3 hK3=>wp_block ?_
 have J4:∀(a:Act) (s:St),Has N0 148 s0 a s []→((zbg.j1 r_))→K3 a s.w:=by
  intro a s L h
  unfold zbg.j1 at h
  show K3 a s.w
  refine hK3 _ _ (wp_seq_k fun K5 hK5=>?_)
  refine rg (sx 2 (zd o_b J J) L fun a s _ L=>?_)
  refine en' (hK5 _ _ ?_)
  subst h
  exact wp_ret (retq J L J)
 obtain ⟨k7,h⟩:=h
 refine lpg (fun k8 a s=>∃(i6:Int),Has N0 148 s0 a s [(0,(Pd.rep En.str s_)),(3,(Pi i6))]∧zbg.l1 s_ r_ (zbg.j1 r_) k8 i6) k7 ⟨0,L.keep (.k 0 (.k 3 .nil)),h⟩ ?_
 rintro k8 a s ⟨i6,L,h⟩ KL9 hKL9
 cases k8 with
 | zero=>exact h.elim
 | succ k8=>
 unfold zbg.l1 at h
 refine wp_seq_k fun K10 hK10=>wp_seq_k fun K11 hK11=>rg (sx 8 (zb (o_t 3 J) J J) L fun a s _ L=>?_)
 refine sx 9 (zb (o_t 0 J) J J) L fun a s _ L=>sx 10 (t_slen (o_t 9 J) Tryz.underlying9 J J) L fun a s _ L=>sx 11 (t_lss (o_t 8 J) (o_t 10 J) J J) L fun a s _ L=>en' (hK11 _ _ ?_)
 refine cnd L J (fun hb_=>?_) (fun hb_=>?_)
 ·replace h:=h.1 hb_
  refine wp_skip ?_
  show K10 a s.w
  refine hK10 _ _ (wp_block ?_)
  refine wp_seq_k fun K12 hK12=>?_
  obtain ⟨c13,h14,h⟩:=h
  refine rg (sx 12 (zb (o_t 0 J) J J) L fun a s _ L=>?_)
  refine sx 13 (zb (o_t 3 J) J J) L fun a s _ L=>sx 14 (t_sidx (o_t 12 J) (o_t 13 J) h14 Tryz.underlying9 J J) L fun a s _ L=>sx 15 (t_up (o_t 14 J) (by decide) Tryz.underlying5 Tryz.underlying3 J J) L fun a s _ L=>sx 4 (zd (o_t 15 J) J J) L fun a s _ L=>en' (hK12 _ _ ?_)
  refine wp_seq_k fun K15 hK15=>?_
  obtain ⟨h16,r17,h18,h⟩:=h
  refine rg (sx 16 (zb (o_t 0 J) J J) L fun a s _ L=>?_)
  refine sx 17 (zb (o_t 3 J) J J) L fun a s _ L=>sx 18 (t_add (o_t 17 J) oI h16 J J) L fun a s _ L=>sx 19 (zu (zd7 h18) (xs:=[.tmp 16,.tmp 18,.const (.int .i64 128),.const (.int .i64 191)]) (.cons (o_t 16 J) (.cons (o_t 18 J) (.cons oI (.cons oI .nil)))) J J) L fun a s _ L=>sx 5 (zd (o_t 19 J) J J) L fun a s _ L=>en' (hK15 _ _ ?_)
  refine wp_seq_k fun K19 hK19=>?_
  obtain ⟨h20,r21,h22,h⟩:=h
  refine rg (sx 20 (zb (o_t 0 J) J J) L fun a s _ L=>?_)
  refine sx 21 (zb (o_t 3 J) J J) L fun a s _ L=>sx 22 (t_add (o_t 21 J) oI h20 J J) L fun a s _ L=>sx 23 (zu (zd7 h22) (xs:=[.tmp 20,.tmp 22,.const (.int .i64 128),.const (.int .i64 191)]) (.cons (o_t 20 J) (.cons (o_t 22 J) (.cons oI (.cons oI .nil)))) J J) L fun a s _ L=>sx 6 (zd (o_t 23 J) J J) L fun a s _ L=>en' (hK19 _ _ ?_)
  refine wp_seq_k fun K23 hK23=>?_
  obtain ⟨h24,r25,h26,h⟩:=h
  refine rg (sx 24 (zb (o_t 0 J) J J) L fun a s _ L=>?_)
  refine sx 25 (zb (o_t 3 J) J J) L fun a s _ L=>sx 26 (t_add (o_t 25 J) oI h24 J J) L fun a s _ L=>sx 27 (zu (zd7 h26) (xs:=[.tmp 24,.tmp 26,.const (.int .i64 128),.const (.int .i64 191)]) (.cons (o_t 24 J) (.cons (o_t 26 J) (.cons oI (.cons oI .nil)))) J J) L fun a s _ L=>sx 7 (zd (o_t 27 J) J J) L fun a s _ L=>en' (hK23 _ _ ?_)
  refine wp_block (wp_seq_k fun K27 hK27=>?_)
  refine rg (sx 29 (zb (o_t 4 J) J J) L fun a s _ L=>?_)
  refine sx 30 (t_lss (o_t 29 J) oI J J) L fun a s _ L=>sx 28 (zd (o_t 30 J) J J) L fun a s _ L=>en' (hK27 _ _ ?_)
  refine cnd L J (fun hb_=>?_) (fun hb_=>?_)
  ·obtain ⟨h28,h⟩:=h.1 hb_
   refine rg (sx 31 (zb (o_t 3 J) J J) L fun a s _ L=>?_)
   refine sx 32 (t_add (o_t 31 J) oI h28 J J) L fun a s _ L=>sx 3 (zd (o_t 32 J) J J) L fun a s _ L=>en' ?_
   exact hKL9 k8 a s (Nat.lt_succ_self _) ⟨(i6+1),L.keep (.k 0 (.k 3 .nil)),h⟩
  ·replace h:=h.2 hb_
   refine wp_seq_k fun K29 hK29=>?_
   obtain ⟨b30,h31,h⟩:=h
   refine rg (sx 34 (zb (o_t 4 J) J J) L fun a s _ L=>?_)
   refine sx 35 (t_geq (o_t 34 J) oI J J) L fun a s _ L=>sx 36 (zb (o_t 35 J) J J) L fun a s _ L=>sx 37 (t_g1 J J J (fun hc_=>zb (o_t 4 J) J J)) L fun a s _ L=>sx 38 (t_g1 J J J (fun hc_=>t_leq (o_w hc_ 37 J) oI J J)) L fun a s _ L=>sx 39 (t_and (o_t 36 J) (fun hc2_=>(o_w hc2_ 38 J)) J J) L fun a s _ L=>sx 40 (zb (o_t 39 J) J J) L fun a s _ L=>sx 41 (t_g1 J J J (fun hc_=>zb (o_t 5 J) J J)) L fun a s _ L=>sx 42 (h31 ▸ (t_and (o_t 40 J) (fun hc2_=>(o_w hc2_ 41 J)) J J)) L fun a s _ L=>sx 33 (zd (o_t 42 J) J J) L fun a s _ L=>?_
   refine en' (hK29 _ _ ?_)
   refine cnd L J (fun hb_=>?_) (fun hb_=>?_)
   ·obtain ⟨h32,h⟩:=h.1 hb_
    refine rg (sx 43 (zb (o_t 3 J) J J) L fun a s _ L=>?_)
    refine sx 44 (t_add (o_t 43 J) oI h32 J J) L fun a s _ L=>sx 3 (zd (o_t 44 J) J J) L fun a s _ L=>en' ?_
    exact hKL9 k8 a s (Nat.lt_succ_self _) ⟨(i6+2),L.keep (.k 0 (.k 3 .nil)),h⟩
   ·replace h:=h.2 hb_
    refine wp_seq_k fun K33 hK33=>?_
    obtain ⟨h34,r35,h36,h⟩:=h
    refine rg (sx 46 (zb (o_t 4 J) J J) L fun a s _ L=>?_)
    refine sx 47 (t_eqi (o_t 46 J) oI J J) L fun a s _ L=>sx 48 (zb (o_t 47 J) J J) L fun a s _ L=>sx 49 (t_g1 J J J (fun hc_=>zb (o_t 0 J) J J)) L fun a s _ L=>sx 50 (t_g1 J J J (fun hc_=>zb (o_t 3 J) J J)) L fun a s _ L=>sx 51 (t_g1 J J J (fun hc_=>t_add (o_w hc_ 50 J) oI (h34 hc_) J J)) L fun a s _ L=>sx 52 (t_g1 J J J (fun hc_=>zu (zd7 (h36 hc_)) (xs:=[.tmp 49,.tmp 51,.const (.int .i64 160),.const (.int .i64 191)]) (.cons (o_w hc_ 49 J) (.cons (o_w hc_ 51 J) (.cons oI (.cons oI .nil)))) J J)) L fun a s _ L=>sx 53 (t_and (o_t 48 J) (fun hc2_=>(o_w hc2_ 52 J)) J J) L fun a s _ L=>sx 54 (zb (o_t 53 J) J J) L fun a s _ L=>sx 55 (t_g1 J J J (fun hc_=>zb (o_t 6 J) J J)) L fun a s _ L=>?_
    refine sx 56 (t_and (o_t 54 J) (fun hc2_=>(o_w hc2_ 55 J)) J J) L fun a s _ L=>sx 45 (zd (o_t 56 J) J J) L fun a s _ L=>en' (hK33 _ _ ?_)
    refine cnd L J (fun hb_=>?_) (fun hb_=>?_)
    ·obtain ⟨h37,h⟩:=h.1 hb_
     refine rg (sx 57 (zb (o_t 3 J) J J) L fun a s _ L=>?_)
     refine sx 58 (t_add (o_t 57 J) oI h37 J J) L fun a s _ L=>sx 3 (zd (o_t 58 J) J J) L fun a s _ L=>en' ?_
     exact hKL9 k8 a s (Nat.lt_succ_self _) ⟨(i6+3),L.keep (.k 0 (.k 3 .nil)),h⟩
    ·replace h:=h.2 hb_
     refine wp_seq_k fun K38 hK38=>?_
     obtain ⟨b39,h40,h⟩:=h
     refine rg (sx 60 (zb (o_t 4 J) J J) L fun a s _ L=>?_)
     refine sx 61 (t_geq (o_t 60 J) oI J J) L fun a s _ L=>sx 62 (zb (o_t 61 J) J J) L fun a s _ L=>sx 63 (t_g1 J J J (fun hc_=>zb (o_t 4 J) J J)) L fun a s _ L=>sx 64 (t_g1 J J J (fun hc_=>t_leq (o_w hc_ 63 J) oI J J)) L fun a s _ L=>sx 65 (t_and (o_t 62 J) (fun hc2_=>(o_w hc2_ 64 J)) J J) L fun a s _ L=>sx 66 (zb (o_t 65 J) J J) L fun a s _ L=>sx 67 (t_g1 J J J (fun hc_=>zb (o_t 4 J) J J)) L fun a s _ L=>sx 68 (t_g1 J J J (fun hc_=>t_eqi (o_w hc_ 67 J) oI J J)) L fun a s _ L=>sx 69 (h40 ▸ (t_or (o_t 66 J) (fun hc2_=>(o_w hc2_ 68 J)) J J)) L fun a s _ L=>?_
     refine sx 70 (zb (o_t 69 J) J J) L fun a s _ L=>sx 71 (t_g1 J J J (fun hc_=>zb (o_t 4 J) J J)) L fun a s _ L=>sx 72 (t_g1 J J J (fun hc_=>t_eqi (o_w hc_ 71 J) oI J J)) L fun a s _ L=>sx 73 (t_or (o_t 70 J) (fun hc2_=>(o_w hc2_ 72 J)) J J) L fun a s _ L=>sx 74 (zb (o_t 73 J) J J) L fun a s _ L=>sx 75 (t_g1 J J J (fun hc_=>zb (o_t 5 J) J J)) L fun a s _ L=>sx 76 (t_and (o_t 74 J) (fun hc2_=>(o_w hc2_ 75 J)) J J) L fun a s _ L=>sx 77 (zb (o_t 76 J) J J) L fun a s _ L=>sx 78 (t_g1 J J J (fun hc_=>zb (o_t 6 J) J J)) L fun a s _ L=>?_
     refine sx 79 (t_and (o_t 77 J) (fun hc2_=>(o_w hc2_ 78 J)) J J) L fun a s _ L=>sx 59 (zd (o_t 79 J) J J) L fun a s _ L=>en' (hK38 _ _ ?_)
     refine cnd L J (fun hb_=>?_) (fun hb_=>?_)
     ·obtain ⟨h41,h⟩:=h.1 hb_
      refine rg (sx 80 (zb (o_t 3 J) J J) L fun a s _ L=>?_)
      refine sx 81 (t_add (o_t 80 J) oI h41 J J) L fun a s _ L=>sx 3 (zd (o_t 81 J) J J) L fun a s _ L=>en' ?_
      exact hKL9 k8 a s (Nat.lt_succ_self _) ⟨(i6+3),L.keep (.k 0 (.k 3 .nil)),h⟩
     ·replace h:=h.2 hb_
      refine wp_seq_k fun K42 hK42=>?_
      obtain ⟨h43,r44,h45,h⟩:=h
      refine rg (sx 83 (zb (o_t 4 J) J J) L fun a s _ L=>?_)
      refine sx 84 (t_eqi (o_t 83 J) oI J J) L fun a s _ L=>sx 85 (zb (o_t 84 J) J J) L fun a s _ L=>sx 86 (t_g1 J J J (fun hc_=>zb (o_t 0 J) J J)) L fun a s _ L=>sx 87 (t_g1 J J J (fun hc_=>zb (o_t 3 J) J J)) L fun a s _ L=>sx 88 (t_g1 J J J (fun hc_=>t_add (o_w hc_ 87 J) oI (h43 hc_) J J)) L fun a s _ L=>sx 89 (t_g1 J J J (fun hc_=>zu (zd7 (h45 hc_)) (xs:=[.tmp 86,.tmp 88,.const (.int .i64 128),.const (.int .i64 159)]) (.cons (o_w hc_ 86 J) (.cons (o_w hc_ 88 J) (.cons oI (.cons oI .nil)))) J J)) L fun a s _ L=>sx 90 (t_and (o_t 85 J) (fun hc2_=>(o_w hc2_ 89 J)) J J) L fun a s _ L=>sx 91 (zb (o_t 90 J) J J) L fun a s _ L=>sx 92 (t_g1 J J J (fun hc_=>zb (o_t 6 J) J J)) L fun a s _ L=>?_
      refine sx 93 (t_and (o_t 91 J) (fun hc2_=>(o_w hc2_ 92 J)) J J) L fun a s _ L=>sx 82 (zd (o_t 93 J) J J) L fun a s _ L=>en' (hK42 _ _ ?_)
      refine cnd L J (fun hb_=>?_) (fun hb_=>?_)
      ·obtain ⟨h46,h⟩:=h.1 hb_
       refine rg (sx 94 (zb (o_t 3 J) J J) L fun a s _ L=>?_)
       refine sx 95 (t_add (o_t 94 J) oI h46 J J) L fun a s _ L=>sx 3 (zd (o_t 95 J) J J) L fun a s _ L=>en' ?_
       exact hKL9 k8 a s (Nat.lt_succ_self _) ⟨(i6+3),L.keep (.k 0 (.k 3 .nil)),h⟩
      ·replace h:=h.2 hb_
       refine wp_seq_k fun K47 hK47=>?_
       obtain ⟨h48,r49,h50,h⟩:=h
       refine rg (sx 97 (zb (o_t 4 J) J J) L fun a s _ L=>?_)
       refine sx 98 (t_eqi (o_t 97 J) oI J J) L fun a s _ L=>sx 99 (zb (o_t 98 J) J J) L fun a s _ L=>sx 100 (t_g1 J J J (fun hc_=>zb (o_t 0 J) J J)) L fun a s _ L=>sx 101 (t_g1 J J J (fun hc_=>zb (o_t 3 J) J J)) L fun a s _ L=>sx 102 (t_g1 J J J (fun hc_=>t_add (o_w hc_ 101 J) oI (h48 hc_) J J)) L fun a s _ L=>sx 103 (t_g1 J J J (fun hc_=>zu (zd7 (h50 hc_)) (xs:=[.tmp 100,.tmp 102,.const (.int .i64 144),.const (.int .i64 191)]) (.cons (o_w hc_ 100 J) (.cons (o_w hc_ 102 J) (.cons oI (.cons oI .nil)))) J J)) L fun a s _ L=>sx 104 (t_and (o_t 99 J) (fun hc2_=>(o_w hc2_ 103 J)) J J) L fun a s _ L=>sx 105 (zb (o_t 104 J) J J) L fun a s _ L=>sx 106 (t_g1 J J J (fun hc_=>zb (o_t 6 J) J J)) L fun a s _ L=>?_
       refine sx 107 (t_and (o_t 105 J) (fun hc2_=>(o_w hc2_ 106 J)) J J) L fun a s _ L=>sx 108 (zb (o_t 107 J) J J) L fun a s _ L=>sx 109 (t_g1 J J J (fun hc_=>zb (o_t 7 J) J J)) L fun a s _ L=>sx 110 (t_and (o_t 108 J) (fun hc2_=>(o_w hc2_ 109 J)) J J) L fun a s _ L=>sx 96 (zd (o_t 110 J) J J) L fun a s _ L=>en' (hK47 _ _ ?_)
       refine cnd L J (fun hb_=>?_) (fun hb_=>?_)
       ·obtain ⟨h51,h⟩:=h.1 hb_
        refine rg (sx 111 (zb (o_t 3 J) J J) L fun a s _ L=>?_)
        refine sx 112 (t_add (o_t 111 J) oI h51 J J) L fun a s _ L=>sx 3 (zd (o_t 112 J) J J) L fun a s _ L=>en' ?_
        exact hKL9 k8 a s (Nat.lt_succ_self _) ⟨(i6+4),L.keep (.k 0 (.k 3 .nil)),h⟩
       ·replace h:=h.2 hb_
        refine wp_seq_k fun K52 hK52=>?_
        obtain ⟨b53,h54,h⟩:=h
        refine rg (sx 114 (zb (o_t 4 J) J J) L fun a s _ L=>?_)
        refine sx 115 (t_geq (o_t 114 J) oI J J) L fun a s _ L=>sx 116 (zb (o_t 115 J) J J) L fun a s _ L=>sx 117 (t_g1 J J J (fun hc_=>zb (o_t 4 J) J J)) L fun a s _ L=>sx 118 (t_g1 J J J (fun hc_=>t_leq (o_w hc_ 117 J) oI J J)) L fun a s _ L=>sx 119 (t_and (o_t 116 J) (fun hc2_=>(o_w hc2_ 118 J)) J J) L fun a s _ L=>sx 120 (zb (o_t 119 J) J J) L fun a s _ L=>sx 121 (t_g1 J J J (fun hc_=>zb (o_t 5 J) J J)) L fun a s _ L=>sx 122 (h54 ▸ (t_and (o_t 120 J) (fun hc2_=>(o_w hc2_ 121 J)) J J)) L fun a s _ L=>sx 123 (zb (o_t 122 J) J J) L fun a s _ L=>?_
        refine sx 124 (t_g1 J J J (fun hc_=>zb (o_t 6 J) J J)) L fun a s _ L=>sx 125 (t_and (o_t 123 J) (fun hc2_=>(o_w hc2_ 124 J)) J J) L fun a s _ L=>sx 126 (zb (o_t 125 J) J J) L fun a s _ L=>sx 127 (t_g1 J J J (fun hc_=>zb (o_t 7 J) J J)) L fun a s _ L=>sx 128 (t_and (o_t 126 J) (fun hc2_=>(o_w hc2_ 127 J)) J J) L fun a s _ L=>sx 113 (zd (o_t 128 J) J J) L fun a s _ L=>en' (hK52 _ _ ?_)
        refine cnd L J (fun hb_=>?_) (fun hb_=>?_)
        ·obtain ⟨h55,h⟩:=h.1 hb_
         refine rg (sx 129 (zb (o_t 3 J) J J) L fun a s _ L=>?_)
         refine sx 130 (t_add (o_t 129 J) oI h55 J J) L fun a s _ L=>sx 3 (zd (o_t 130 J) J J) L fun a s _ L=>en' ?_
         exact hKL9 k8 a s (Nat.lt_succ_self _) ⟨(i6+4),L.keep (.k 0 (.k 3 .nil)),h⟩
        ·replace h:=h.2 hb_
         refine wp_seq_k fun K56 hK56=>?_
         obtain ⟨h57,r58,h59,h⟩:=h
         refine rg (sx 132 (zb (o_t 4 J) J J) L fun a s _ L=>?_)
         refine sx 133 (t_eqi (o_t 132 J) oI J J) L fun a s _ L=>sx 134 (zb (o_t 133 J) J J) L fun a s _ L=>sx 135 (t_g1 J J J (fun hc_=>zb (o_t 0 J) J J)) L fun a s _ L=>sx 136 (t_g1 J J J (fun hc_=>zb (o_t 3 J) J J)) L fun a s _ L=>sx 137 (t_g1 J J J (fun hc_=>t_add (o_w hc_ 136 J) oI (h57 hc_) J J)) L fun a s _ L=>sx 138 (t_g1 J J J (fun hc_=>zu (zd7 (h59 hc_)) (xs:=[.tmp 135,.tmp 137,.const (.int .i64 128),.const (.int .i64 143)]) (.cons (o_w hc_ 135 J) (.cons (o_w hc_ 137 J) (.cons oI (.cons oI .nil)))) J J)) L fun a s _ L=>sx 139 (t_and (o_t 134 J) (fun hc2_=>(o_w hc2_ 138 J)) J J) L fun a s _ L=>sx 140 (zb (o_t 139 J) J J) L fun a s _ L=>sx 141 (t_g1 J J J (fun hc_=>zb (o_t 6 J) J J)) L fun a s _ L=>?_
         refine sx 142 (t_and (o_t 140 J) (fun hc2_=>(o_w hc2_ 141 J)) J J) L fun a s _ L=>sx 143 (zb (o_t 142 J) J J) L fun a s _ L=>sx 144 (t_g1 J J J (fun hc_=>zb (o_t 7 J) J J)) L fun a s _ L=>sx 145 (t_and (o_t 143 J) (fun hc2_=>(o_w hc2_ 144 J)) J J) L fun a s _ L=>sx 131 (zd (o_t 145 J) J J) L fun a s _ L=>en' (hK56 _ _ ?_)
         refine cnd L J (fun hb_=>?_) (fun hb_=>?_)
         ·obtain ⟨h60,h⟩:=h.1 hb_
          refine rg (sx 146 (zb (o_t 3 J) J J) L fun a s _ L=>?_)
          refine sx 147 (t_add (o_t 146 J) oI h60 J J) L fun a s _ L=>sx 3 (zd (o_t 147 J) J J) L fun a s _ L=>en' ?_
          exact hKL9 k8 a s (Nat.lt_succ_self _) ⟨(i6+4),L.keep (.k 0 (.k 3 .nil)),h⟩
         ·replace h:=h.2 hb_
          refine wp_seq_k fun K61 hK61=>rg (sx 2 (zd o_b J J) L fun a s _ L=>?_)
          refine en' (hK61 _ _ ?_)
          subst h
          exact wp_ret (retq J L J)
 ·replace h:=h.2 hb_
  refine wp_exit ?_
  exact J4 a s (L.keep .nil) h
def z7.j1 (r_:(List SNode)) (out5:(List SNode)):Prop:=r_=out5
def z7.j2 (L1_:(List SNode)→Int→Prop) (out9:(List SNode)) (i11:Int) (n30:SNode):Prop:=(out9.length+[n30].length≤2147483648)∧(InR .i64 (i11+1))∧L1_ (out9++[n30]) (i11+1)
def z7.j3 (L1_:(List SNode)→Int→Prop) (by_:Int) (out9:(List SNode)) (i11:Int) (n25:SNode):Prop:=((((n25.1==4)||(n25.1==5)))=true→(InR .i64 (n25.2.2.1+by_))∧(z7.j2 (L1_) out9 i11) (n25.1,n25.2.1,n25.2.2.1+by_,n25.2.2.2.1,n25.2.2.2.2.1,n25.2.2.2.2.2.1,n25.2.2.2.2.2.2))∧((((n25.1==4)||(n25.1==5)))=false→(z7.j2 (L1_) out9 i11) n25)
def z7.l1 (l_:(List SNode)) (by_:Int) (X1:(List SNode)→Prop):Nat→(List SNode)→Int→Prop
 | 0,_,_=>False
 | k_0+1,out9,i11=>((decide (i11<(l_.length:Int)))=true→∃e19:SNode,at? l_ i11=some e19∧((decide (4≤e19.1))=true→(InR .i64 (e19.2.1+by_))∧(z7.j3 (z7.l1 l_ by_ X1 k_0) by_ out9 i11) (e19.1,e19.2.1+by_,e19.2.2.1,e19.2.2.2.1,e19.2.2.2.2.1,e19.2.2.2.2.2.1,e19.2.2.2.2.2.2))∧((decide (4≤e19.1))=false→(z7.j3 (z7.l1 l_ by_ X1 k_0) by_ out9 i11) e19))∧((decide (i11<(l_.length:Int)))=false→X1 out9)
def z7 (l_:(List SNode)) (by_:Int) (r_:(List SNode)):Prop:=∃k12,z7.l1 l_ by_ (z7.j1 r_) k12 ([]:(List SNode)) 0
def ref04_Wrap (kind_:Int) (lo_:Int) (hi_:Int) (a_:SDesc) (r_:SDesc):Prop:=∃r6:(List SNode),z7 a_ 0 r6∧(InR .i64 ((a_.length:Int)-1))∧(r6.length+[(kind_,(a_.length:Int)-1,0,lo_,hi_,(0#256),([]:Str))].length≤2147483648)∧r_=r6++[(kind_,(a_.length:Int)-1,0,lo_,hi_,(0#256),([]:Str))]
def zcw.j1 (d_:SDesc) (r_:Bool) (n5:Int):Prop:=∃b8:Bool,b8=((decide ((d_.length:Int)≤100))&&(decide (n5≤2000)))∧r_=b8
def zcw.l1 (d_:SDesc) (X1:Int→Prop):Nat→Int→Int→Prop
 | 0,_,_=>False
 | k_0+1,n10,i11=>∃b17:Bool,b17=((decide (i11<(d_.length:Int)))&&(decide (i11<200)))∧((b17)=true→∃e20:SNode,at? d_ i11=some e20∧(InR .i64 (n10+(e20.2.2.2.2.2.2.length:Int)))∧(InR .i64 (i11+1))∧zcw.l1 d_ X1 k_0 (n10+(e20.2.2.2.2.2.2.length:Int)) (i11+1))∧((b17)=false→X1 n10)
def zcw (d_:SDesc) (r_:Bool):Prop:=∃k12,zcw.l1 d_ (zcw.j1 d_ r_) k12 0 0
def zcg.j1 (s_:Str) (r_:Bool):Prop:=∃r6:Bool,(((decide (0<(s_.length:Int)))=true)→zbg s_ r6)∧r_=((decide (0<(s_.length:Int)))&&r6)
def zcg.l1 (s_:Str) (r_:Bool) (X1:Prop):Nat→Int→Prop
 | 0,_=>False
 | k_0+1,i8=>((decide (i8<(s_.length:Int)))=true→∃c16:Int,byte? s_ i8=some c16∧(((c16==34))=true→r_=false)∧(((c16==34))=false→(InR .i64 (i8+1))∧zcg.l1 s_ r_ X1 k_0 (i8+1)))∧((decide (i8<(s_.length:Int)))=false→X1)
def zcg (s_:Str) (r_:Bool):Prop:=∃k9,zcg.l1 s_ r_ (zcg.j1 s_ r_) k9 0
def zw.j1 (n_:(List SNode)→Int→Int→Prop) (l_:(List SNode)) (i_:Int) (r_:Int) (e6:SNode) (want48:SNode):Prop:=(InR .i64 (i_-1))∧∃r52:Int,n_ l_ (i_-1) r52∧(((e6 != want48))=true→r_=(-1))∧(((e6 != want48))=false→r_=r52)
def zw.j2 (n_:(List SNode)→Int→Int→Prop) (l_:(List SNode)) (i_:Int) (r_:Int) (e6:SNode) (v66:Bool):Prop:=((v66)=true→(InR .i64 (i_-1))∧(InR .i64 (i_-1))∧∃r73:Int,n_ l_ (i_-1) r73∧((decide (r73<0))=true→r_=(-1))∧((decide (r73<0))=false→(InR .i64 (r73-1))∧(InR .i64 (r73-1))∧∃r81:Int,n_ l_ (r73-1) r81∧∃b85:Bool,b85=(e6 != (e6.1,r73-1,i_-1,0,0,(0#256),([]:Str)))∧((b85)=true→r_=(-1))∧((b85)=false→r_=r81)))∧((v66)=false→r_=(-1))
def zw.j3 (n_:(List SNode)→Int→Int→Prop) (l_:(List SNode)) (i_:Int) (r_:Int) (e6:SNode) (v41:Bool):Prop:=((v41)=true→(InR .i64 (i_-1))∧(((e6.1==7))=true→∃b61:Bool,b61=((decide (e6.2.2.2.1<0))||(decide (e6.2.2.2.2.1<e6.2.2.2.1)))∧(((b61||(decide (255<e6.2.2.2.2.1))))=true→r_=(-1))∧(((b61||(decide (255<e6.2.2.2.2.1))))=false→(zw.j1 (n_) l_ i_ r_ e6) (e6.1,i_-1,0,e6.2.2.2.1,e6.2.2.2.2.1,(0#256),([]:Str))))∧(((e6.1==7))=false→(zw.j1 (n_) l_ i_ r_ e6) (e6.1,i_-1,0,0,0,(0#256),([]:Str))))∧((v41)=false→(((e6.1==4))=true→(zw.j2 (n_) l_ i_ r_ e6) (e6.1==4))∧(((e6.1==4))=false→(zw.j2 (n_) l_ i_ r_ e6) (e6.1==5)))
def zw.n:Nat→(List SNode)→Int→Int→Prop
 | 0,_,_,_=>False
 | k_+1,l_,i_,r_=>((decide (i_<0))=true→r_=(-1))∧((decide (i_<0))=false→∃e6:SNode,at? l_ i_=some e6∧(((e6.1==1))=true→(((e6 != (e6.1,0,0,0,0,(0#256),([]:Str))))=true→r_=(-1))∧(((e6 != (e6.1,0,0,0,0,(0#256),([]:Str))))=false→r_=i_))∧(((e6.1==1))=false→(((e6.1==2))=true→∃b23:Bool,b23=(e6 != (e6.1,0,0,0,0,e6.2.2.2.2.2.1,([]:Str)))∧((b23)=true→r_=(-1))∧((b23)=false→r_=i_))∧(((e6.1==2))=false→(((e6.1==3))=true→∃r30:Bool,zcg e6.2.2.2.2.2.2 r30∧(((!r30))=true→r_=(-1))∧(((!r30))=false→∃b35:Bool,b35=(e6 != (e6.1,0,0,0,0,(0#256),e6.2.2.2.2.2.2))∧((b35)=true→r_=(-1))∧((b35)=false→r_=i_)))∧(((e6.1==3))=false→(((e6.1==6))=true→(zw.j3 (zw.n k_) l_ i_ r_ e6) (e6.1==6))∧(((e6.1==6))=false→(((e6.1==7))=true→(zw.j3 (zw.n k_) l_ i_ r_ e6) (e6.1==7))∧(((e6.1==7))=false→(((e6.1==8))=true→(zw.j3 (zw.n k_) l_ i_ r_ e6) (e6.1==8))∧(((e6.1==8))=false→(zw.j3 (zw.n k_) l_ i_ r_ e6) (e6.1==9))))))))
def zw (l_:(List SNode)) (i_:Int) (r_:Int):Prop:=∃k_,zw.n k_ l_ i_ r_
def ref04_Form (d_:SDesc) (r_:Bool):Prop:=(((decide (0<(d_.length:Int)))=true)→InR .i64 ((d_.length:Int)-1))∧∃r4:Int,(((decide (0<(d_.length:Int)))=true)→zw d_ ((d_.length:Int)-1) r4)∧r_=((decide (0<(d_.length:Int)))&&(r4==0))
end Go.Proofs.YtahgmdbioafmbaaGreatDoor.V
