/-
  The texts that the law's proof needs, part 2.
-/
import Derived.BigCall
import Derived.Lib.AppendIntMem
import Derived.Lib.ItoaLen
import Derived.Shelf.LaysM
import Derived.Shelf.SlLaysF
import Derived.Shelf.SlLaysF0
import Derived.Shelf.Strconv.Itoa3
import Derived.Shelf.Strings.BuilderK
import Derived.WalkKit
import Derived.Test.YtahgmdbioafmbaaGreatDoorWordBoundP1

namespace Go.Proofs.YtahgmdbioafmbaaGreatDoor.V
open Go
set_option linter.unusedVariables false
set_option maxRecDepth 100000
noncomputable abbrev En.SItem:En SItem:=(En.cat (En.int .i64) (En.cat (En.int .i64) (En.cat (En.int .i64) (En.int .i64))))
noncomputable abbrev EnF43:En ((List (List SItem)) × Str→Prop):=En.fun Tryz.prog (fun q=>[Pd.rep (En.slice (En.slice En.SItem)) q.1]) (fun q=>Rq (Pd.rep En.str q.2))
noncomputable abbrev EnF88:En ((List SItem) × Bool→Prop):=En.fun Tryz.prog (fun q=>[Pd.rep (En.slice En.SItem) q.1]) (fun q=>Rq (Pd.rep En.bool q.2))
noncomputable abbrev En.SOn_scantling_api_State_search:En SOn_scantling_api_State_search:=(En.cat (En.int .u8) (En.slice (En.slice En.SItem)))
noncomputable abbrev EnF109:En ((List (List SItem)) × (List SOn_scantling_api_State_search)→Prop):=En.fun Tryz.prog (fun q=>[Pd.rep (En.slice (En.slice En.SItem)) q.1]) (fun q=>Rq (Pd.rep (En.slice En.SOn_scantling_api_State_search) q.2))
noncomputable abbrev EnF110:En ((List (List SItem)) × Bool→Prop):=En.fun Tryz.prog (fun q=>[Pd.rep (En.slice (En.slice En.SItem)) q.1]) (fun q=>Rq (Pd.rep En.bool q.2))
noncomputable abbrev EnF209:En (Cl × Int→Prop):=En.fun Tryz.prog (fun q=>[Pd.rep En.cls q.1]) (fun q=>Rq (Pd.rep (En.int .i64) q.2))
noncomputable abbrev EnF211:En (Cl × Cl × Int→Prop):=En.fun Tryz.prog (fun q=>[Pd.rep En.cls q.1,Pd.rep En.cls q.2.1]) (fun q=>Rq (Pd.rep (En.int .i64) q.2.2))
noncomputable abbrev En.SNode:En SNode:=(En.cat (En.int .i64) (En.cat (En.int .i64) (En.cat (En.int .i64) (En.cat (En.int .i64) (En.cat (En.int .i64) (En.cat En.cls En.str))))))
noncomputable abbrev En.SDesc:En SDesc:=En.solo (En.slice En.SNode)
noncomputable abbrev En.SVerdict:En SVerdict:=(En.cat (En.int .i64) (En.cat (En.slice (En.int .u8)) (En.cat (En.slice (En.int .u8)) (En.cat (En.int .i64) (En.cat (En.int .i64) (En.cat (En.int .i64) (En.int .i64)))))))
noncomputable abbrev En.SBranch:En SBranch:=(En.cat (En.slice En.SItem) (En.int .i64))
noncomputable abbrev En.Sof_word:En Sof_word:=En.solo En.SDesc
noncomputable abbrev En.SFound_scantling_api_State_search:En SFound_scantling_api_State_search:=(En.cat En.SVerdict (En.slice (En.slice En.SItem)))
noncomputable abbrev En.SSpace_scantling_api_State_search:En SSpace_scantling_api_State_search:=(En.cat (En.slice (En.slice En.SItem)) (En.cat EnF43 (En.cat EnF109 EnF110)))
noncomputable abbrev En.Smade_scantling_api_State_search:En Smade_scantling_api_State_search:=(En.cat (En.slice (En.slice En.SItem)) (En.cat (En.int .i64) (En.int .u8)))
noncomputable abbrev En.Sstep_next:En Sstep_next:=(En.cat En.SNode (En.cat En.SItem (En.int .u8)))
theorem ty3:Ty Tryz.prog 3 (En.int .i64):=⟨⟨_,_,rfl,rfl,rfl,rfl,by decide⟩,_,rfl,rfl⟩
theorem ty4:Ty Tryz.prog 4 En.bool:=⟨⟨_,_,rfl,rfl,rfl,rfl,by decide⟩,_,rfl,rfl⟩
theorem ty5:Ty Tryz.prog 5 (En.int .u8):=⟨⟨_,_,rfl,rfl,rfl,rfl,by decide⟩,_,rfl,rfl⟩
theorem ty9:Ty Tryz.prog 9 En.str:=⟨⟨_,_,rfl,rfl,rfl,rfl,by decide⟩,_,rfl,rfl⟩
theorem zfj:Ty Tryz.prog 22 (En.slice En.SNode):=⟨⟨_,_,rfl,rfl,rfl,rfl,by decide⟩,_,rfl,rfl⟩
theorem zfl:Ty Tryz.prog 24 En.SDesc:=⟨⟨_,_,rfl,rfl,rfl,rfl,by decide⟩,_,rfl,rfl⟩
theorem ty25:Ty Tryz.prog 25 (En.slice (En.slice En.SItem)):=⟨⟨_,_,rfl,rfl,rfl,rfl,by decide⟩,_,rfl,rfl⟩
theorem ty26:Ty Tryz.prog 26 (En.slice (En.int .u8)):=⟨⟨_,_,rfl,rfl,rfl,rfl,by decide⟩,_,rfl,rfl⟩
theorem ty43:Ty Tryz.prog 43 EnF43:=⟨⟨_,_,rfl,rfl,rfl,rfl,by decide⟩,_,rfl,rfl⟩
theorem zfv:Ty Tryz.prog 47 (En.slice En.SItem):=⟨⟨_,_,rfl,rfl,rfl,rfl,by decide⟩,_,rfl,rfl⟩
theorem ty49:Ty Tryz.prog 49 (En.int .u64):=⟨⟨_,_,rfl,rfl,rfl,rfl,by decide⟩,_,rfl,rfl⟩
theorem zco:Ty Tryz.prog 51 En.cls:=⟨⟨_,_,rfl,rfl,rfl,rfl,by decide⟩,_,rfl,rfl⟩
theorem ty56:Ty Tryz.prog 56 (En.int .i64):=⟨⟨_,_,rfl,rfl,rfl,rfl,by decide⟩,_,rfl,rfl⟩
theorem ty58:Ty Tryz.prog 58 En.SVerdict:=⟨⟨_,_,rfl,rfl,rfl,rfl,by decide⟩,_,rfl,rfl⟩
theorem zfi:Ty Tryz.prog 68 En.SNode:=⟨⟨_,_,rfl,rfl,rfl,rfl,by decide⟩,_,rfl,rfl⟩
theorem zfk:Ty Tryz.prog 77 En.SItem:=⟨⟨_,_,rfl,rfl,rfl,rfl,by decide⟩,_,rfl,rfl⟩
theorem zmm:Ty Tryz.prog 82 En.SBranch:=⟨⟨_,_,rfl,rfl,rfl,rfl,by decide⟩,_,rfl,rfl⟩
theorem ty106:Ty Tryz.prog 106 En.Sof_word:=⟨⟨_,_,rfl,rfl,rfl,rfl,by decide⟩,_,rfl,rfl⟩
theorem ty108:Ty Tryz.prog 108 En.SFound_scantling_api_State_search:=⟨⟨_,_,rfl,rfl,rfl,rfl,by decide⟩,_,rfl,rfl⟩
theorem ty109:Ty Tryz.prog 109 EnF109:=⟨⟨_,_,rfl,rfl,rfl,rfl,by decide⟩,_,rfl,rfl⟩
theorem ty110:Ty Tryz.prog 110 EnF110:=⟨⟨_,_,rfl,rfl,rfl,rfl,by decide⟩,_,rfl,rfl⟩
theorem ty150:Ty Tryz.prog 150 En.SOn_scantling_api_State_search:=⟨⟨_,_,rfl,rfl,rfl,rfl,by decide⟩,_,rfl,rfl⟩
theorem ty152:Ty Tryz.prog 152 En.Smade_scantling_api_State_search:=⟨⟨_,_,rfl,rfl,rfl,rfl,by decide⟩,_,rfl,rfl⟩
theorem ty209:Ty Tryz.prog 209 EnF209:=⟨⟨_,_,rfl,rfl,rfl,rfl,by decide⟩,_,rfl,rfl⟩
theorem tyz4:TyZ Tryz.prog 4 En.bool (false:Bool):=⟨_,_,[.bool false],rfl,rfl,by rfl,fun _ _=>rfl⟩
theorem zpm:TyZ Tryz.prog 24 En.SDesc ([]:SDesc):=⟨_,_,[.slice none 0 0],rfl,rfl,by rfl,fun _ _=>⟨_,rfl,zex _ _ _⟩⟩
theorem zj4:TyZ Tryz.prog 51 En.cls ((0#256):Cl):=⟨_,_,zb1 0#256,rfl,rfl,by rfl,fun _ _=>rfl⟩
theorem tyz58:TyZ Tryz.prog 58 En.SVerdict ((0,[],[],0,0,0,0):SVerdict):=⟨_,_,([.int .i64 0]++([.slice none 0 0]++([.slice none 0 0]++([.int .i64 0]++([.int .i64 0]++([.int .i64 0]++[.int .i64 0])))))),rfl,rfl,by rfl,fun _ _=>⟨_,_,rfl,⟨rfl,by decide⟩,⟨_,_,rfl,⟨_,rfl,zex _ _ _⟩,⟨_,_,rfl,⟨_,rfl,zex _ _ _⟩,⟨_,_,rfl,⟨rfl,by decide⟩,⟨_,_,rfl,⟨rfl,by decide⟩,⟨_,_,rfl,⟨rfl,by decide⟩,⟨rfl,by decide⟩⟩⟩⟩⟩⟩⟩⟩
theorem zk2:TyZ Tryz.prog 68 En.SNode ((0,0,0,0,0,(0#256),([]:Str)):SNode):=⟨_,_,([.int .i64 0]++([.int .i64 0]++([.int .i64 0]++([.int .i64 0]++([.int .i64 0]++(zb1 0#256++[.string ⟨#[]⟩])))))),rfl,rfl,by rfl,fun _ _=>⟨_,_,rfl,⟨rfl,by decide⟩,⟨_,_,rfl,⟨rfl,by decide⟩,⟨_,_,rfl,⟨rfl,by decide⟩,⟨_,_,rfl,⟨rfl,by decide⟩,⟨_,_,rfl,⟨rfl,by decide⟩,⟨_,_,rfl,rfl,⟨rfl,by decide⟩⟩⟩⟩⟩⟩⟩⟩
theorem zic:TyZ Tryz.prog 77 En.SItem ((0,0,0,0):SItem):=⟨_,_,([.int .i64 0]++([.int .i64 0]++([.int .i64 0]++[.int .i64 0]))),rfl,rfl,by rfl,fun _ _=>⟨_,_,rfl,⟨rfl,by decide⟩,⟨_,_,rfl,⟨rfl,by decide⟩,⟨_,_,rfl,⟨rfl,by decide⟩,⟨rfl,by decide⟩⟩⟩⟩⟩
theorem zn2:TyZ Tryz.prog 82 En.SBranch (([],0):SBranch):=⟨_,_,([.slice none 0 0]++[.int .i64 0]),rfl,rfl,by rfl,fun _ _=>⟨_,_,rfl,⟨_,rfl,zex _ _ _⟩,⟨rfl,by decide⟩⟩⟩
theorem tyz106:TyZ Tryz.prog 106 En.Sof_word ([]:Sof_word):=⟨_,_,[.slice none 0 0],rfl,rfl,by rfl,fun _ _=>⟨_,rfl,zex _ _ _⟩⟩
theorem tyz108:TyZ Tryz.prog 108 En.SFound_scantling_api_State_search (((0,[],[],0,0,0,0),[]):SFound_scantling_api_State_search):=⟨_,_,(([.int .i64 0]++([.slice none 0 0]++([.slice none 0 0]++([.int .i64 0]++([.int .i64 0]++([.int .i64 0]++[.int .i64 0]))))))++[.slice none 0 0]),rfl,rfl,by rfl,fun _ _=>⟨_,_,rfl,⟨_,_,rfl,⟨rfl,by decide⟩,⟨_,_,rfl,⟨_,rfl,zex _ _ _⟩,⟨_,_,rfl,⟨_,rfl,zex _ _ _⟩,⟨_,_,rfl,⟨rfl,by decide⟩,⟨_,_,rfl,⟨rfl,by decide⟩,⟨_,_,rfl,⟨rfl,by decide⟩,⟨rfl,by decide⟩⟩⟩⟩⟩⟩⟩,⟨_,rfl,zex _ _ _⟩⟩⟩
theorem tyz112:TyZ Tryz.prog 112 En.SSpace_scantling_api_State_search (([],(fun _=>False),(fun _=>False),(fun _=>False)):SSpace_scantling_api_State_search):=⟨_,_,([.slice none 0 0]++([.nilFunc]++([.nilFunc]++[.nilFunc]))),rfl,rfl,by rfl,fun _ _=>⟨_,_,rfl,⟨_,rfl,zex _ _ _⟩,⟨_,_,rfl,.inl ⟨rfl,fun _ h=>h⟩,⟨_,_,rfl,.inl ⟨rfl,fun _ h=>h⟩,.inl ⟨rfl,fun _ h=>h⟩⟩⟩⟩⟩
theorem tyz150:TyZ Tryz.prog 150 En.SOn_scantling_api_State_search ((0,[]):SOn_scantling_api_State_search):=⟨_,_,([.int .u8 0]++[.slice none 0 0]),rfl,rfl,by rfl,fun _ _=>⟨_,_,rfl,⟨rfl,by decide⟩,⟨_,rfl,zex _ _ _⟩⟩⟩
theorem tyz152:TyZ Tryz.prog 152 En.Smade_scantling_api_State_search (([],0,0):Smade_scantling_api_State_search):=⟨_,_,([.slice none 0 0]++([.int .i64 0]++[.int .u8 0])),rfl,rfl,by rfl,fun _ _=>⟨_,_,rfl,⟨_,rfl,zex _ _ _⟩,⟨_,_,rfl,⟨rfl,by decide⟩,⟨rfl,by decide⟩⟩⟩⟩
theorem tyz170:TyZ Tryz.prog 170 En.Sstep_next (((0,0,0,0,0,(0#256),([]:Str)),(0,0,0,0),0):Sstep_next):=⟨_,_,(([.int .i64 0]++([.int .i64 0]++([.int .i64 0]++([.int .i64 0]++([.int .i64 0]++(zb1 0#256++[.string ⟨#[]⟩]))))))++(([.int .i64 0]++([.int .i64 0]++([.int .i64 0]++[.int .i64 0])))++[.int .u8 0])),rfl,rfl,by rfl,fun _ _=>⟨_,_,rfl,⟨_,_,rfl,⟨rfl,by decide⟩,⟨_,_,rfl,⟨rfl,by decide⟩,⟨_,_,rfl,⟨rfl,by decide⟩,⟨_,_,rfl,⟨rfl,by decide⟩,⟨_,_,rfl,⟨rfl,by decide⟩,⟨_,_,rfl,rfl,⟨rfl,by decide⟩⟩⟩⟩⟩⟩⟩,⟨_,_,rfl,⟨_,_,rfl,⟨rfl,by decide⟩,⟨_,_,rfl,⟨rfl,by decide⟩,⟨_,_,rfl,⟨rfl,by decide⟩,⟨rfl,by decide⟩⟩⟩⟩,⟨rfl,by decide⟩⟩⟩⟩
theorem tyz209:TyZ Tryz.prog 209 EnF209 ((fun _=>False):(Cl × Int→Prop)):=⟨_,_,[.nilFunc],rfl,rfl,by rfl,fun _ _=>.inl ⟨rfl,fun _ h=>h⟩⟩
theorem tyv3:TyV Tryz.prog 3 (En.int .i64) (0:Int):=⟨_,[.int .i64 0],rfl,by rfl,fun _ _=>⟨rfl,by decide⟩⟩
theorem tyv4:TyV Tryz.prog 4 En.bool (false:Bool):=⟨_,[.bool false],rfl,by rfl,fun _ _=>rfl⟩
theorem stt24:Stt Tryz.prog 24 [(0,1)]:=⟨_,Tryz.underlying24,by kernel_rfl⟩
theorem stt58:Stt Tryz.prog 58 [(0,1),(1,1),(2,1),(3,1),(4,1),(5,1),(6,1)]:=⟨_,Tryz.underlying58,by kernel_rfl⟩
theorem stt68:Stt Tryz.prog 68 [(0,1),(1,1),(2,1),(3,1),(4,1),(5,4),(9,1)]:=⟨_,Tryz.underlying68,by kernel_rfl⟩
theorem stt77:Stt Tryz.prog 77 [(0,1),(1,1),(2,1),(3,1)]:=⟨_,Tryz.underlying77,by kernel_rfl⟩
theorem stt82:Stt Tryz.prog 82 [(0,1),(1,1)]:=⟨_,Tryz.underlying82,by kernel_rfl⟩
theorem stt106:Stt Tryz.prog 106 [(0,1)]:=⟨_,Tryz.underlying106,by kernel_rfl⟩
theorem stt108:Stt Tryz.prog 108 [(0,7),(7,1)]:=⟨_,Tryz.underlying108,by kernel_rfl⟩
theorem stt112:Stt Tryz.prog 112 [(0,1),(1,1),(2,1),(3,1)]:=⟨_,Tryz.underlying112,by kernel_rfl⟩
theorem stt150:Stt Tryz.prog 150 [(0,1),(1,1)]:=⟨_,Tryz.underlying150,by kernel_rfl⟩
theorem stt152:Stt Tryz.prog 152 [(0,1),(1,1),(2,1)]:=⟨_,Tryz.underlying152,by kernel_rfl⟩
theorem stt170:Stt Tryz.prog 170 [(0,10),(10,4),(14,1)]:=⟨_,Tryz.underlying170,by kernel_rfl⟩
theorem eqi68:EqI Tryz.prog 3 68 En.SNode:=eqi_struct rfl (by kernel_rfl) (by kernel_rfl) rfl (zho (EqI.up (znp Tryz.underlying3) (by decide)) ty3 (by kernel_rfl) (by kernel_rfl) (zho (EqI.up (znp Tryz.underlying3) (by decide)) ty3 (by kernel_rfl) (by kernel_rfl) (zho (EqI.up (znp Tryz.underlying3) (by decide)) ty3 (by kernel_rfl) (by kernel_rfl) (zho (EqI.up (znp Tryz.underlying3) (by decide)) ty3 (by kernel_rfl) (by kernel_rfl) (zho (EqI.up (znp Tryz.underlying3) (by decide)) ty3 (by kernel_rfl) (by kernel_rfl) (zho (EqI.up (eqi_cls Tryz.underlying51 Tryz.underlying49 (by kernel_rfl)) (by decide)) zco (by kernel_rfl) (by kernel_rfl) (eqfs_last (EqI.up (eqi_str Tryz.underlying9) (by decide)) ty9 (by kernel_rfl) (by kernel_rfl))))))))
theorem eq68:Eqv Tryz.prog 68 En.SNode:=eqv_struct eqi68 (by decide) rfl (by kernel_rfl)
theorem zqo:KeyT Tryz.prog 51 En.cls kvCls:=key_cls Tryz.underlying51 Tryz.underlying49 (by kernel_rfl) (by kernel_rfl) (by kernel_rfl) ⟨_,rfl⟩ (by kernel_rfl) (by kernel_rfl)
open Go.Shelf
set_option maxRecDepth 100000
def sl169_ren:Go.Shelf.Ren:=⟨fun | 169=>71 | n=>n,fun | 70=>94 | 9=>9 | 0=>0 | 72=>96 | 37=>26 | 127=>147 | 3=>3 | 5=>5 | n=>n,fun | n=>n⟩
theorem sl169:Go.Proofs.Lays.n169 Tryz.prog sl169_ren where
 mixed:=by kernel_rfl
 f169:=Tryz.func71.trans (congrArg some (by kernel_rfl))
 t0:=Tryz.underlying0
 a0:=Tryz.isAgg0
 z0:=Tryz.sizeOf0
 v0:=Tryz.zeroValue0
 t3:=Tryz.underlying3
 a3:=Tryz.isAgg3
 z3:=Tryz.sizeOf3
 v3:=Tryz.zeroValue3
 t9:=Tryz.underlying9
 a9:=Tryz.isAgg9
 z9:=Tryz.sizeOf9
 v9:=Tryz.zeroValue9
 t37:=Tryz.underlying26
 a37:=Tryz.isAgg26
 z37:=Tryz.sizeOf26
 v37:=Tryz.zeroValue26
 t70:=Tryz.underlying94
 a70:=Tryz.isAgg94
 z70:=Tryz.sizeOf94
 v70:=Tryz.zeroValue94
 t72:=Tryz.underlying96
 a72:=Tryz.isAgg96
 z72:=Tryz.sizeOf96
 v72:=Tryz.zeroValue96
 t127:=Tryz.underlying147
 a127:=Tryz.isAgg147
 z127:=Tryz.sizeOf147
 v127:=Tryz.zeroValue147
def sl171_ren:Go.Shelf.Ren:=⟨fun | 171=>93 | 243=>121 | 246=>154 | 283=>174 | 284=>175 | 285=>176 | 286=>177 | 129=>131 | 317=>181 | 318=>182 | 319=>183 | 320=>184 | 337=>187 | 338=>188 | n=>n,fun | 3=>3 | 9=>9 | 2=>2 | 4=>4 | 171=>218 | 0=>0 | 53=>49 | 37=>26 | 5=>5 | 173=>220 | 212=>227 | 51=>181 | 20=>20 | 213=>228 | 46=>133 | 232=>231 | 233=>232 | n=>n,fun | 17=>2 | 18=>3 | 19=>4 | n=>n⟩
theorem sl171:Go.Proofs.LaysM.n171 Tryz.prog sl171_ren where
 mixed:=by kernel_rfl
 f129:=Tryz.func131.trans (congrArg some (by kernel_rfl))
 f171:=Tryz.func93.trans (congrArg some (by kernel_rfl))
 f243:=Tryz.func121.trans (congrArg some (by kernel_rfl))
 f246:=Tryz.func154.trans (congrArg some (by kernel_rfl))
 f283:=Tryz.func174.trans (congrArg some (by kernel_rfl))
 f284:=Tryz.func175.trans (congrArg some (by kernel_rfl))
 f285:=Tryz.func176.trans (congrArg some (by kernel_rfl))
 f286:=Tryz.func177.trans (congrArg some (by kernel_rfl))
 f317:=Tryz.func181.trans (congrArg some (by kernel_rfl))
 f318:=Tryz.func182.trans (congrArg some (by kernel_rfl))
 f319:=Tryz.func183.trans (congrArg some (by kernel_rfl))
 f320:=Tryz.func184.trans (congrArg some (by kernel_rfl))
 f337:=Tryz.func187.trans (congrArg some (by kernel_rfl))
 f338:=Tryz.func188.trans (congrArg some (by kernel_rfl))
 t0:=Tryz.underlying0
 a0:=Tryz.isAgg0
 z0:=Tryz.sizeOf0
 v0:=Tryz.zeroValue0
 t2:=Tryz.underlying2
 a2:=Tryz.isAgg2
 z2:=Tryz.sizeOf2
 v2:=Tryz.zeroValue2
 t3:=Tryz.underlying3
 a3:=Tryz.isAgg3
 z3:=Tryz.sizeOf3
 v3:=Tryz.zeroValue3
 t4:=Tryz.underlying4
 a4:=Tryz.isAgg4
 z4:=Tryz.sizeOf4
 v4:=Tryz.zeroValue4
 t5:=Tryz.underlying5
 a5:=Tryz.isAgg5
 z5:=Tryz.sizeOf5
 v5:=Tryz.zeroValue5
 t9:=Tryz.underlying9
 a9:=Tryz.isAgg9
 z9:=Tryz.sizeOf9
 v9:=Tryz.zeroValue9
 t20:=Tryz.underlying20
 a20:=Tryz.isAgg20
 z20:=Tryz.sizeOf20
 v20:=Tryz.zeroValue20
 t37:=Tryz.underlying26
 a37:=Tryz.isAgg26
 z37:=Tryz.sizeOf26
 v37:=Tryz.zeroValue26
 t46:=Tryz.underlying133
 a46:=Tryz.isAgg133
 z46:=Tryz.sizeOf133
 v46:=Tryz.zeroValue133
 t51:=Tryz.underlying181
 a51:=Tryz.isAgg181
 z51:=Tryz.sizeOf181
 v51:=Tryz.zeroValue181
 t53:=Tryz.underlying49
 a53:=Tryz.isAgg49
 z53:=Tryz.sizeOf49
 v53:=Tryz.zeroValue49
 t171:=Tryz.underlying218
 a171:=Tryz.isAgg218
 z171:=Tryz.sizeOf218
 v171:=Tryz.zeroValue218
 t173:=Tryz.underlying220
 a173:=Tryz.isAgg220
 z173:=Tryz.sizeOf220
 v173:=Tryz.zeroValue220
 t212:=Tryz.underlying227
 a212:=Tryz.isAgg227
 z212:=Tryz.sizeOf227
 v212:=Tryz.zeroValue227
 t213:=Tryz.underlying228
 a213:=Tryz.isAgg228
 z213:=Tryz.sizeOf228
 t232:=Tryz.underlying231
 a232:=Tryz.isAgg231
 z232:=Tryz.sizeOf231
 v232:=Tryz.zeroValue231
 t233:=Tryz.underlying232
 a233:=Tryz.isAgg232
 z233:=Tryz.sizeOf232
 v233:=Tryz.zeroValue232
 g17:=by kernel_rfl
 g18:=by kernel_rfl
 g19:=by kernel_rfl
 i0:=by kernel_rfl
 i2:=by kernel_rfl
 i3:=by kernel_rfl
 i4:=by kernel_rfl
 i5:=by kernel_rfl
 i9:=by kernel_rfl
 i20:=by kernel_rfl
 i37:=by kernel_rfl
 i46:=by kernel_rfl
 i51:=by kernel_rfl
 i53:=by kernel_rfl
 i171:=by kernel_rfl
 i173:=by kernel_rfl
 i212:=by kernel_rfl
 i232:=by kernel_rfl
 i233:=by kernel_rfl
 m17:=by kernel_rfl
 m18:=by kernel_rfl
 m19:=by kernel_rfl
def slsort_ren:Go.Shelf.Ren:=⟨fun | 6=>91 | 15=>95 | 14=>120 | 28=>130 | 29=>131 | 20=>146 | 21=>147 | 22=>148 | 23=>149 | 24=>150 | 25=>151 | 26=>152 | 27=>153 | 46=>171 | 47=>156 | 48=>157 | 49=>172 | 50=>173 | 57=>180 | n=>n,fun | 22=>79 | 24=>82 | 25=>129 | 3=>3 | 39=>133 | 0=>0 | 53=>181 | 55=>49 | 4=>4 | 46=>175 | 45=>174 | 50=>70 | 5=>5 | 9=>9 | 66=>201 | 70=>205 | 76=>222 | 77=>61 | n=>n,fun | n=>n⟩
theorem slsort:Go.Proofs.SlLaysF0.n6 Tryz.prog slsort_ren where
 mixed:=by kernel_rfl
 f6:=⟨"slices.SortFunc[[]scantling/api.Branch,scantling/api.Branch]",by decide,Tryz.func91.trans (congrArg some (by kernel_rfl))⟩
 f14:=⟨"slices.pdqsortCmpFunc[scantling/api.Branch]",by decide,Tryz.func120.trans (congrArg some (by kernel_rfl))⟩
 f15:=Tryz.func95.trans (congrArg some (by kernel_rfl))
 f20:=⟨"slices.insertionSortCmpFunc[scantling/api.Branch]",by decide,Tryz.func146.trans (congrArg some (by kernel_rfl))⟩
 f21:=⟨"slices.heapSortCmpFunc[scantling/api.Branch]",by decide,Tryz.func147.trans (congrArg some (by kernel_rfl))⟩
 f22:=⟨"slices.breakPatternsCmpFunc[scantling/api.Branch]",by decide,Tryz.func148.trans (congrArg some (by kernel_rfl))⟩
 f23:=⟨"slices.choosePivotCmpFunc[scantling/api.Branch]",by decide,Tryz.func149.trans (congrArg some (by kernel_rfl))⟩
 f24:=⟨"slices.reverseRangeCmpFunc[scantling/api.Branch]",by decide,Tryz.func150.trans (congrArg some (by kernel_rfl))⟩
 f25:=⟨"slices.partialInsertionSortCmpFunc[scantling/api.Branch]",by decide,Tryz.func151.trans (congrArg some (by kernel_rfl))⟩
 f26:=⟨"slices.partitionEqualCmpFunc[scantling/api.Branch]",by decide,Tryz.func152.trans (congrArg some (by kernel_rfl))⟩
 f27:=⟨"slices.partitionCmpFunc[scantling/api.Branch]",by decide,Tryz.func153.trans (congrArg some (by kernel_rfl))⟩
 f28:=Tryz.func130.trans (congrArg some (by kernel_rfl))
 f29:=Tryz.func131.trans (congrArg some (by kernel_rfl))
 f46:=⟨"slices.siftDownCmpFunc[scantling/api.Branch]",by decide,Tryz.func171.trans (congrArg some (by kernel_rfl))⟩
 f47:=Tryz.func156.trans (congrArg some (by kernel_rfl))
 f48:=Tryz.func157.trans (congrArg some (by kernel_rfl))
 f49:=⟨"slices.medianAdjacentCmpFunc[scantling/api.Branch]",by decide,Tryz.func172.trans (congrArg some (by kernel_rfl))⟩
 f50:=⟨"slices.medianCmpFunc[scantling/api.Branch]",by decide,Tryz.func173.trans (congrArg some (by kernel_rfl))⟩
 f57:=⟨"slices.order2CmpFunc[scantling/api.Branch]",by decide,Tryz.func180.trans (congrArg some (by kernel_rfl))⟩
 t0:=Tryz.underlying0
 a0:=Tryz.isAgg0
 z0:=Tryz.sizeOf0
 v0:=Tryz.zeroValue0
 t3:=Tryz.underlying3
 a3:=Tryz.isAgg3
 z3:=Tryz.sizeOf3
 v3:=Tryz.zeroValue3
 t4:=Tryz.underlying4
 a4:=Tryz.isAgg4
 z4:=Tryz.sizeOf4
 v4:=Tryz.zeroValue4
 t5:=Tryz.underlying5
 a5:=Tryz.isAgg5
 z5:=Tryz.sizeOf5
 v5:=Tryz.zeroValue5
 t9:=Tryz.underlying9
 a9:=Tryz.isAgg9
 z9:=Tryz.sizeOf9
 v9:=Tryz.zeroValue9
 t22:=Tryz.underlying79
 a22:=Tryz.isAgg79
 z22:=Tryz.sizeOf79
 v22:=Tryz.zeroValue79
 t25:=Tryz.underlying129
 a25:=Tryz.isAgg129
 z25:=Tryz.sizeOf129
 v25:=Tryz.zeroValue129
 t39:=Tryz.underlying133
 a39:=Tryz.isAgg133
 z39:=Tryz.sizeOf133
 v39:=Tryz.zeroValue133
 t45:=Tryz.underlying174
 a45:=Tryz.isAgg174
 z45:=Tryz.sizeOf174
 v45:=Tryz.zeroValue174
 t46:=Tryz.underlying175
 a46:=Tryz.isAgg175
 z46:=Tryz.sizeOf175
 v46:=Tryz.zeroValue175
 t50:=Tryz.underlying70
 a50:=Tryz.isAgg70
 z50:=Tryz.sizeOf70
 v50:=Tryz.zeroValue70
 t53:=Tryz.underlying181
 a53:=Tryz.isAgg181
 z53:=Tryz.sizeOf181
 v53:=Tryz.zeroValue181
 t55:=Tryz.underlying49
 a55:=Tryz.isAgg49
 z55:=Tryz.sizeOf49
 v55:=Tryz.zeroValue49
 t66:=Tryz.underlying201
 a66:=Tryz.isAgg201
 z66:=Tryz.sizeOf201
 v66:=Tryz.zeroValue201
 t70:=Tryz.underlying205
 a70:=Tryz.isAgg205
 z70:=Tryz.sizeOf205
 v70:=Tryz.zeroValue205
 t76:=Tryz.underlying222
 a76:=Tryz.isAgg222
 z76:=Tryz.sizeOf222
 v76:=Tryz.zeroValue222
 t77:=Tryz.underlying61
 a77:=Tryz.isAgg61
 z77:=Tryz.sizeOf61
 v77:=Tryz.zeroValue61
def slsortS_ren:Go.Shelf.Ren:=⟨fun | 6=>57 | 15=>95 | 14=>94 | 28=>130 | 29=>131 | 20=>122 | 21=>123 | 22=>124 | 23=>125 | 24=>126 | 25=>127 | 26=>128 | 27=>129 | 46=>155 | 47=>156 | 48=>157 | 49=>158 | 50=>159 | 57=>178 | n=>n,fun | 22=>25 | 24=>47 | 25=>73 | 3=>3 | 39=>133 | 0=>0 | 53=>181 | 55=>49 | 4=>4 | 46=>175 | 45=>174 | 50=>70 | 5=>5 | 9=>9 | 66=>201 | 70=>205 | 76=>222 | 77=>61 | n=>n,fun | n=>n⟩
theorem slsortS:Go.Proofs.SlLaysF0.n6 Tryz.prog slsortS_ren where
 mixed:=by kernel_rfl
 f6:=⟨"slices.SortFunc[[]scantling/api.State,scantling/api.State]",by decide,Tryz.func57.trans (congrArg some (by kernel_rfl))⟩
 f14:=⟨"slices.pdqsortCmpFunc[scantling/api.State]",by decide,Tryz.func94.trans (congrArg some (by kernel_rfl))⟩
 f15:=Tryz.func95.trans (congrArg some (by kernel_rfl))
 f20:=⟨"slices.insertionSortCmpFunc[scantling/api.State]",by decide,Tryz.func122.trans (congrArg some (by kernel_rfl))⟩
 f21:=⟨"slices.heapSortCmpFunc[scantling/api.State]",by decide,Tryz.func123.trans (congrArg some (by kernel_rfl))⟩
 f22:=⟨"slices.breakPatternsCmpFunc[scantling/api.State]",by decide,Tryz.func124.trans (congrArg some (by kernel_rfl))⟩
 f23:=⟨"slices.choosePivotCmpFunc[scantling/api.State]",by decide,Tryz.func125.trans (congrArg some (by kernel_rfl))⟩
 f24:=⟨"slices.reverseRangeCmpFunc[scantling/api.State]",by decide,Tryz.func126.trans (congrArg some (by kernel_rfl))⟩
 f25:=⟨"slices.partialInsertionSortCmpFunc[scantling/api.State]",by decide,Tryz.func127.trans (congrArg some (by kernel_rfl))⟩
 f26:=⟨"slices.partitionEqualCmpFunc[scantling/api.State]",by decide,Tryz.func128.trans (congrArg some (by kernel_rfl))⟩
 f27:=⟨"slices.partitionCmpFunc[scantling/api.State]",by decide,Tryz.func129.trans (congrArg some (by kernel_rfl))⟩
 f28:=Tryz.func130.trans (congrArg some (by kernel_rfl))
 f29:=Tryz.func131.trans (congrArg some (by kernel_rfl))
 f46:=⟨"slices.siftDownCmpFunc[scantling/api.State]",by decide,Tryz.func155.trans (congrArg some (by kernel_rfl))⟩
 f47:=Tryz.func156.trans (congrArg some (by kernel_rfl))
 f48:=Tryz.func157.trans (congrArg some (by kernel_rfl))
 f49:=⟨"slices.medianAdjacentCmpFunc[scantling/api.State]",by decide,Tryz.func158.trans (congrArg some (by kernel_rfl))⟩
 f50:=⟨"slices.medianCmpFunc[scantling/api.State]",by decide,Tryz.func159.trans (congrArg some (by kernel_rfl))⟩
 f57:=⟨"slices.order2CmpFunc[scantling/api.State]",by decide,Tryz.func178.trans (congrArg some (by kernel_rfl))⟩
 t0:=Tryz.underlying0
 a0:=Tryz.isAgg0
 z0:=Tryz.sizeOf0
 v0:=Tryz.zeroValue0
 t3:=Tryz.underlying3
 a3:=Tryz.isAgg3
 z3:=Tryz.sizeOf3
 v3:=Tryz.zeroValue3
 t4:=Tryz.underlying4
 a4:=Tryz.isAgg4
 z4:=Tryz.sizeOf4
 v4:=Tryz.zeroValue4
 t5:=Tryz.underlying5
 a5:=Tryz.isAgg5
 z5:=Tryz.sizeOf5
 v5:=Tryz.zeroValue5
 t9:=Tryz.underlying9
 a9:=Tryz.isAgg9
 z9:=Tryz.sizeOf9
 v9:=Tryz.zeroValue9
 t22:=Tryz.underlying25
 a22:=Tryz.isAgg25
 z22:=Tryz.sizeOf25
 v22:=Tryz.zeroValue25
 t25:=Tryz.underlying73
 a25:=Tryz.isAgg73
 z25:=Tryz.sizeOf73
 v25:=Tryz.zeroValue73
 t39:=Tryz.underlying133
 a39:=Tryz.isAgg133
 z39:=Tryz.sizeOf133
 v39:=Tryz.zeroValue133
 t45:=Tryz.underlying174
 a45:=Tryz.isAgg174
 z45:=Tryz.sizeOf174
 v45:=Tryz.zeroValue174
 t46:=Tryz.underlying175
 a46:=Tryz.isAgg175
 z46:=Tryz.sizeOf175
 v46:=Tryz.zeroValue175
 t50:=Tryz.underlying70
 a50:=Tryz.isAgg70
 z50:=Tryz.sizeOf70
 v50:=Tryz.zeroValue70
 t53:=Tryz.underlying181
 a53:=Tryz.isAgg181
 z53:=Tryz.sizeOf181
 v53:=Tryz.zeroValue181
 t55:=Tryz.underlying49
 a55:=Tryz.isAgg49
 z55:=Tryz.sizeOf49
 v55:=Tryz.zeroValue49
 t66:=Tryz.underlying201
 a66:=Tryz.isAgg201
 z66:=Tryz.sizeOf201
 v66:=Tryz.zeroValue201
 t70:=Tryz.underlying205
 a70:=Tryz.isAgg205
 z70:=Tryz.sizeOf205
 v70:=Tryz.zeroValue205
 t76:=Tryz.underlying222
 a76:=Tryz.isAgg222
 z76:=Tryz.sizeOf222
 v76:=Tryz.zeroValue222
 t77:=Tryz.underlying61
 a77:=Tryz.isAgg61
 z77:=Tryz.sizeOf61
 v77:=Tryz.zeroValue61
def slsortT_ren:Go.Shelf.Ren:=⟨fun | 6=>57 | 15=>95 | 14=>94 | 28=>130 | 29=>131 | 20=>122 | 21=>123 | 22=>124 | 23=>125 | 24=>126 | 25=>127 | 26=>128 | 27=>129 | 46=>155 | 47=>156 | 48=>157 | 49=>158 | 50=>159 | 57=>178 | n=>n,fun | 22=>25 | 24=>47 | 25=>73 | 3=>3 | 39=>133 | 0=>0 | 53=>181 | 55=>49 | 4=>4 | 46=>175 | 45=>174 | 50=>70 | 5=>5 | 9=>9 | 66=>201 | 70=>205 | 76=>222 | 77=>61 | n=>n,fun | n=>n⟩
theorem slsortT:Go.Proofs.SlLaysF.n6 Tryz.prog slsortT_ren where
 mixed:=by kernel_rfl
 f6:=⟨"slices.SortFunc[[]scantling/api.State,scantling/api.State]",by decide,Tryz.func57.trans (congrArg some (by kernel_rfl))⟩
 f14:=⟨"slices.pdqsortCmpFunc[scantling/api.State]",by decide,Tryz.func94.trans (congrArg some (by kernel_rfl))⟩
 f15:=Tryz.func95.trans (congrArg some (by kernel_rfl))
 f20:=⟨"slices.insertionSortCmpFunc[scantling/api.State]",by decide,Tryz.func122.trans (congrArg some (by kernel_rfl))⟩
 f21:=⟨"slices.heapSortCmpFunc[scantling/api.State]",by decide,Tryz.func123.trans (congrArg some (by kernel_rfl))⟩
 f22:=⟨"slices.breakPatternsCmpFunc[scantling/api.State]",by decide,Tryz.func124.trans (congrArg some (by kernel_rfl))⟩
 f23:=⟨"slices.choosePivotCmpFunc[scantling/api.State]",by decide,Tryz.func125.trans (congrArg some (by kernel_rfl))⟩
 f24:=⟨"slices.reverseRangeCmpFunc[scantling/api.State]",by decide,Tryz.func126.trans (congrArg some (by kernel_rfl))⟩
 f25:=⟨"slices.partialInsertionSortCmpFunc[scantling/api.State]",by decide,Tryz.func127.trans (congrArg some (by kernel_rfl))⟩
 f26:=⟨"slices.partitionEqualCmpFunc[scantling/api.State]",by decide,Tryz.func128.trans (congrArg some (by kernel_rfl))⟩
 f27:=⟨"slices.partitionCmpFunc[scantling/api.State]",by decide,Tryz.func129.trans (congrArg some (by kernel_rfl))⟩
 f28:=Tryz.func130.trans (congrArg some (by kernel_rfl))
 f29:=Tryz.func131.trans (congrArg some (by kernel_rfl))
 f46:=⟨"slices.siftDownCmpFunc[scantling/api.State]",by decide,Tryz.func155.trans (congrArg some (by kernel_rfl))⟩
 f47:=Tryz.func156.trans (congrArg some (by kernel_rfl))
 f48:=Tryz.func157.trans (congrArg some (by kernel_rfl))
 f49:=⟨"slices.medianAdjacentCmpFunc[scantling/api.State]",by decide,Tryz.func158.trans (congrArg some (by kernel_rfl))⟩
 f50:=⟨"slices.medianCmpFunc[scantling/api.State]",by decide,Tryz.func159.trans (congrArg some (by kernel_rfl))⟩
 f57:=⟨"slices.order2CmpFunc[scantling/api.State]",by decide,Tryz.func178.trans (congrArg some (by kernel_rfl))⟩
 t0:=Tryz.underlying0
 a0:=Tryz.isAgg0
 z0:=Tryz.sizeOf0
 v0:=Tryz.zeroValue0
 t3:=Tryz.underlying3
 a3:=Tryz.isAgg3
 z3:=Tryz.sizeOf3
 v3:=Tryz.zeroValue3
 t4:=Tryz.underlying4
 a4:=Tryz.isAgg4
 z4:=Tryz.sizeOf4
 v4:=Tryz.zeroValue4
 t5:=Tryz.underlying5
 a5:=Tryz.isAgg5
 z5:=Tryz.sizeOf5
 v5:=Tryz.zeroValue5
 t9:=Tryz.underlying9
 a9:=Tryz.isAgg9
 z9:=Tryz.sizeOf9
 v9:=Tryz.zeroValue9
 t22:=Tryz.underlying25
 a22:=Tryz.isAgg25
 z22:=Tryz.sizeOf25
 v22:=Tryz.zeroValue25
 a24:=Tryz.isAgg47
 z24:=Tryz.sizeOf47
 t25:=Tryz.underlying73
 a25:=Tryz.isAgg73
 z25:=Tryz.sizeOf73
 v25:=Tryz.zeroValue73
 t39:=Tryz.underlying133
 a39:=Tryz.isAgg133
 z39:=Tryz.sizeOf133
 v39:=Tryz.zeroValue133
 t45:=Tryz.underlying174
 a45:=Tryz.isAgg174
 z45:=Tryz.sizeOf174
 v45:=Tryz.zeroValue174
 t46:=Tryz.underlying175
 a46:=Tryz.isAgg175
 z46:=Tryz.sizeOf175
 v46:=Tryz.zeroValue175
 t50:=Tryz.underlying70
 a50:=Tryz.isAgg70
 z50:=Tryz.sizeOf70
 v50:=Tryz.zeroValue70
 t53:=Tryz.underlying181
 a53:=Tryz.isAgg181
 z53:=Tryz.sizeOf181
 v53:=Tryz.zeroValue181
 t55:=Tryz.underlying49
 a55:=Tryz.isAgg49
 z55:=Tryz.sizeOf49
 v55:=Tryz.zeroValue49
 t66:=Tryz.underlying201
 a66:=Tryz.isAgg201
 z66:=Tryz.sizeOf201
 v66:=Tryz.zeroValue201
 t70:=Tryz.underlying205
 a70:=Tryz.isAgg205
 z70:=Tryz.sizeOf205
 v70:=Tryz.zeroValue205
 t76:=Tryz.underlying222
 a76:=Tryz.isAgg222
 z76:=Tryz.sizeOf222
 v76:=Tryz.zeroValue222
 t77:=Tryz.underlying61
 a77:=Tryz.isAgg61
 z77:=Tryz.sizeOf61
 v77:=Tryz.zeroValue61
open Go.RowKit
theorem bx169:Builder.Extra Tryz.prog sl169_ren where
 sizeBuilder:=by kernel_rfl
 liesBuilder:=by kernel_rfl
 t5:=Tryz.underlying5
 a5:=Tryz.isAgg5
 z5:=Tryz.sizeOf5
 v5:=Tryz.zeroValue5
 infoByte:=by kernel_rfl
 cellsByte:=by kernel_rfl
 sizeByte:=by kernel_rfl
 neB5:=by decide
theorem zmf (B b:Nat) (l:List UInt8) (w:World) (h:Lib.IsBuilderF 96 5 B b (Lib.byteCells l) w) (hBw:B≤w.heap.size):
  Calls Tryz.prog 71 #[.pointer (some ⟨b,0,none⟩)] w fun e w'=>e = .returned (.string ⟨l.toArray⟩)∧(Lib.IsBuilderF 96 5 B b (Lib.byteCells l) w'∧Below B w w'∧Lib.OthersKept 5 (some b) w w'):=Any.Builder_String_any_k sl169 bx169 B b l w h hBw
theorem b_itoa (n:Int) (h0:-9223372036854775808≤n) (h1:n≤9223372036854775807) (w:World) (htab:Lib.TabIs Tryz.prog w "internal/strconv.uint64pow10" .u64 Lib.pow10Tab):
  Calls Tryz.prog 93 #[.int .i64 n] w fun e w'=>e = .returned (.string ⟨(Lib.itoa n).toArray⟩)∧∃k os,w'=Sort.grow (w.drewN k) os:=Any.strconv_Itoa sl171 n h0 h1 w htab
set_option maxHeartbeats 1000000 in
set_option maxRecDepth 100000 in
theorem b_used (b:Nat) (w:World) (h0:w.cell? ⟨b,0,none⟩=some (.pointer (some ⟨b,0,none⟩))):
  Calls Tryz.prog 112 #[.pointer (some ⟨b,0,none⟩)] w fun e w'=>e = .returned (.tuple #[])∧w'=w:=by
 obtain ⟨j,hj,_⟩:=Option.map_eq_some_iff.1 bx169.sizeBuilder
 go_enter Tryz.func112,Tryz.ntmps112
 go_wp2
 rw [Lib.run_neq_ptr_same w _ Tryz.underlying94 hj]
 go_wp2
 go_end0
 exact ⟨rfl,rfl⟩
set_option maxHeartbeats 1000000 in
set_option maxRecDepth 100000 in
theorem b_fresh (b:Nat) (w:World) (h0:w.cell? ⟨b,0,none⟩=some (.pointer none)) (hsh:w.shape? b=some (96,2)) (hfz:w.frozen? ⟨b,0,none⟩=false):
  Calls Tryz.prog 112 #[.pointer (some ⟨b,0,none⟩)] w fun e w'=>e = .returned (.tuple #[])∧w'=w.setCell ⟨b,0,none⟩ (.pointer (some ⟨b,0,none⟩)):=by
 obtain ⟨j,hj,hjs⟩:=Option.map_eq_some_iff.1 bx169.sizeBuilder
 go_enter Tryz.func112,Tryz.ntmps112
 go_wp2
 rw [Lib.run_to_unsafe w ⟨b,0,none⟩ Tryz.underlying94 Tryz.underlying188 hj (by rw [hjs];decide) hsh (Nat.zero_lt_succ 1)];simp only [Result.andThen];rw [Oper.upon_value]
 go_wp2
 rw [run_callFunc_extern Tryz.func139 (by kernel_rfl) (by kernel_rfl) (by kernel_rfl) (e:=Extern.AbiNoEscape.same) (by kernel_rfl)];rw [Lib.run_noEscape];simp only [Result.andThen];rw [Oper.upon_value]
 go_wp2
 rw [Lib.run_from_unsafe w ⟨b,0,none⟩ Tryz.underlying188 Tryz.underlying94 hj hsh bx169.liesBuilder];simp only [Result.andThen];rw [Oper.upon_value]
 go_wp2
 go_end0
 exact ⟨rfl,rfl⟩
theorem b_check (B b:Nat) (bs:List Value) (w:World) (h:Lib.IsBuilderF 96 5 B b bs w):
  Calls Tryz.prog 112 #[.pointer (some ⟨b,0,none⟩)] w fun e w'=>e = .returned (.tuple #[])∧(Lib.BuilderAtF 96 5 B b (.pointer (some ⟨b,0,none⟩)) bs w'∧Below B w w'∧Lib.OthersKept 5 (some b) w w'):=by
 rcases h with h | h
 ·refine (b_fresh b w h.cell0 h.shape h.frozen0).mono ?_;rintro e w' ⟨rfl,rfl⟩;exact ⟨rfl,h.used _,(Below.refl B w).setCell (p:=⟨b,0,none⟩) h.1 _,(Lib.OthersKept.refl _ _ w).setCell ⟨b,0,none⟩ rfl _⟩
 ·refine (b_used b w h.cell0).mono ?_;rintro e w' ⟨rfl,rfl⟩;exact ⟨rfl,h,Below.refl B _,Lib.OthersKept.refl _ _ _⟩
set_option maxHeartbeats 2000000 in
set_option maxRecDepth 100000 in
theorem b_byte (B b:Nat) (bs:List Value) (c:Int) (w:World) (h:Lib.IsBuilderF 96 5 B b bs w) (hlen:bs.length+1≤140737488355328) (hBw:B≤w.heap.size):
  Calls Tryz.prog 70 #[.pointer (some ⟨b,0,none⟩),.int .u8 c] w fun e w'=>e = .returned .nilIface∧(Lib.BuilderAtF 96 5 B b (.pointer (some ⟨b,0,none⟩)) (bs++[.int .u8 c]) w'∧Below B w w'∧Lib.OthersKept 5 (some b) w w'):=by
 obtain ⟨i0,hi,hz0,hz1,hz2⟩:=info_parts bx169.infoByte
 go_enter Tryz.func70,Tryz.ntmps70
 go_wp2_with (go_at_call 112;refine (b_check B b bs _ h).mono ?_)
 rintro e w1 ⟨rfl,h1,hb1,hk1⟩;obtain ⟨hB,v,hbk,hown,hne⟩:=h1;have c0:w1.cell? ⟨b,0,none⟩=some (.pointer (some ⟨b,0,none⟩)):=by rw [Lib.cell_of_heap hbk];rfl
 have c1:w1.cell? ⟨b,1,none⟩=some v:=by rw [Lib.cell_of_heap hbk];rfl
 go_wp2_with (at_builtin;refine wpList_append_ownF _ rfl _ _ 26 rfl B 5 i0 (.int .u8 0) 1 1 Tryz.underlying26 hi hz0 hz1 hz2 rfl (by decide) _ _ _ rfl (hown.alloc _) ⟨w1.heap.size,0,none⟩ 1 1 [.int .u8 c] rfl rfl ?c1 ?c2 ?c3 ?c4 ?c5 ?_)
 case c1=>
  intro j u hj
  match j,hj with
  | 0,hj=>simp at hj;subst hj;simp [Addr.add]
 case c2=>intro u hu;simp at hu;subst hu;rfl
 case c3=>unfold maxLen;omega
 case c4=>omega
 case c5=>have:=hb1.size;simp;omega
 intro v' w2 hown' hgrow _;have hlt:b<w1.heap.size:=(Array.getElem?_eq_some_iff.1 hbk).1;have hb2:w2.heap[b]?=some (.cells #[.pointer (some ⟨b,0,none⟩),v] 96 (0,0)):=by
  rw [hgrow.block b (by simp;omega) (fun e=>hne e.symm),Lib.alloc_old w1 _ b hlt];exact hbk
 have d0:w2.cell? ⟨b,0,none⟩=some (.pointer (some ⟨b,0,none⟩)):=by rw [Lib.cell_of_heap hb2];rfl
 have d1:w2.cell? ⟨b,1,none⟩=some v:=by rw [Lib.cell_of_heap hb2];rfl
 have f1:w2.frozen? ⟨b,1,none⟩=false:=Lib.frozen_of_heap hb2 1;obtain ⟨g,cap,rfl⟩:∃g cap,v' = .slice (some ⟨g,0,none⟩) (bs.length+1) cap:=by
  rcases hown'.2 with ⟨_,h0⟩ | ⟨g,cap,cur,fz,hv,_⟩
  ·omega
  ·exact ⟨g,cap,hv⟩
 go_wp2
 go_ret
 refine ⟨rfl, ?_, ?_,((hk1.alloc _).grown hgrow (Lib.ownsRowF_kind (hown.alloc _))).setCell ⟨b,1,none⟩ rfl _⟩
 ·exact Lib.BuilderAtF.put (T:=96) (e:=5) hB hb2 (bs':=bs++[.int .u8 c]) (by simpa using hown') (by decide)
 ·exact ((hb1.alloc (by have:=hb1.size;omega) _).grown hgrow (by have:=hb1.size;simp;omega) (fun k hk=>(hown.lt k hk).1)).setCell (p:=⟨b,1,none⟩) hB _
set_option maxHeartbeats 2000000 in
set_option maxRecDepth 100000 in
theorem b_text (B b:Nat) (bs:List Value) (s:ByteArray) (w:World) (h:Lib.IsBuilderF 96 5 B b bs w) (hlen:bs.length+s.size≤140737488355328) (hBw:B≤w.heap.size):
  Calls Tryz.prog 69 #[.pointer (some ⟨b,0,none⟩),.string s] w fun e w'=>e = .returned (.tuple #[.int .i64 s.size,.nilIface])∧(Lib.BuilderAtF 96 5 B b (.pointer (some ⟨b,0,none⟩)) (bs++Lib.strCells s) w'∧Below B w w'∧Lib.OthersKept 5 (some b) w w'):=by
 obtain ⟨i0,hi,hz0,hz1,hz2⟩:=info_parts bx169.infoByte
 go_enter Tryz.func69,Tryz.ntmps69
 go_wp2_with (go_at_call 112;refine (b_check B b bs _ h).mono ?_)
 rintro e w1 ⟨rfl,h1,hb1,hk1⟩;obtain ⟨hB,v,hbk,hown,hne⟩:=h1;have c0:w1.cell? ⟨b,0,none⟩=some (.pointer (some ⟨b,0,none⟩)):=by rw [Lib.cell_of_heap hbk];rfl
 have c1:w1.cell? ⟨b,1,none⟩=some v:=by rw [Lib.cell_of_heap hbk];rfl
 go_wp2_with (at_builtin;refine Lib.wpList_append_own_stringF _ rfl _ _ 26 9 rfl B 5 i0 Tryz.underlying26 Tryz.underlying9 hi hz0 hz1 hz2 _ _ _ rfl hown s rfl ?c3 ?c4 ?c5 ?_)
 case c3=>unfold maxLen;omega
 case c4=>omega
 case c5=>have:=hb1.size;omega
 intro v' w2 hown' hgrow _;have hlt:b<w1.heap.size:=(Array.getElem?_eq_some_iff.1 hbk).1;have hb2:w2.heap[b]?=some (.cells #[.pointer (some ⟨b,0,none⟩),v] 96 (0,0)):=by
  rw [hgrow.block b hlt (fun e=>hne e.symm)];exact hbk
 have d0:w2.cell? ⟨b,0,none⟩=some (.pointer (some ⟨b,0,none⟩)):=by rw [Lib.cell_of_heap hb2];rfl
 have d1:w2.cell? ⟨b,1,none⟩=some v:=by rw [Lib.cell_of_heap hb2];rfl
 have f1:w2.frozen? ⟨b,1,none⟩=false:=Lib.frozen_of_heap hb2 1;obtain ⟨ao,n',cap,rfl⟩:∃ao n' cap,v' = .slice ao n' cap:=by
  rcases hown'.2 with ⟨hv,_⟩ | ⟨g,cap,cur,fz,hv,_⟩
  ·exact ⟨_,_,_,hv⟩
  ·exact ⟨_,_,_,hv⟩
 go_wp2
 go_ret2
 refine ⟨rfl, ?_, ?_,(hk1.grown hgrow (Lib.ownsRowF_kind hown)).setCell ⟨b,1,none⟩ rfl _⟩
 ·exact Lib.BuilderAtF.put (T:=96) (e:=5) hB hb2 (bs':=bs++Lib.strCells s) (by simpa [Lib.strCells_length] using hown') (by decide)
 ·exact (hb1.grown hgrow (by have:=hb1.size;omega) (fun k hk=>(hown.lt k hk).1)).setCell (p:=⟨b,1,none⟩) hB _
theorem ziu (a:Addr) (k:Nat):(a.add k).block=a.block:=by unfold Addr.add;split <;> rfl
def zrb (w:World) (a:Addr) (xs:List SItem):Prop:=a.block<w.heap.size∧∀(i:Nat) (x:SItem),xs[i]?=some x →
 w.cell? (a.add (i*4))=some (.int .i64 x.1)∧w.cell? ⟨(a.add (i*4)).block,(a.add (i*4)).off+1,none⟩=some (.int .i64 x.2.1)∧w.cell? ⟨(a.add (i*4)).block,(a.add (i*4)).off+2,none⟩=some (.int .i64 x.2.2.1)∧w.cell? ⟨(a.add (i*4)).block,(a.add (i*4)).off+3,none⟩=some (.int .i64 x.2.2.2)
theorem zrb.below {w w':World} {a:Addr} {xs:List SItem} (h:zrb w a xs) {B:Nat} (hb:Below B w w') (hB:a.block<B) {i:Nat} {x:SItem} (hx:xs[i]?=some x):
  w'.cell? (a.add (i*4))=some (.int .i64 x.1)∧w'.cell? ⟨(a.add (i*4)).block,(a.add (i*4)).off+1,none⟩=some (.int .i64 x.2.1)∧w'.cell? ⟨(a.add (i*4)).block,(a.add (i*4)).off+2,none⟩=some (.int .i64 x.2.2.1)∧w'.cell? ⟨(a.add (i*4)).block,(a.add (i*4)).off+3,none⟩=some (.int .i64 x.2.2.2):=by
 obtain ⟨h0,h1,h2,h3⟩:=h.2 i x hx;refine ⟨?_, ?_, ?_, ?_⟩
 ·rw [hb.cell (by rw [ziu];exact hB)];exact h0
 ·rw [hb.cell (by show (a.add (i*4)).block<B;rw [ziu];exact hB)];exact h1
 ·rw [hb.cell (by show (a.add (i*4)).block<B;rw [ziu];exact hB)];exact h2
 ·rw [hb.cell (by show (a.add (i*4)).block<B;rw [ziu];exact hB)];exact h3
theorem zkx {B b:Nat} {bs:List Value} {W W':World} (h:Lib.IsBuilderF 96 5 B b bs W) (hb:Below W.heap.size W W'):Lib.IsBuilderF 96 5 B b bs W':=by
 have one:∀p,Lib.BuilderAtF 96 5 B b p bs W→Lib.BuilderAtF 96 5 B b p bs W':=fun p hp=>by
  have hlt:=hp.lt;obtain ⟨hB,v,hv,hown,hne⟩:=hp;exact ⟨hB,v,(hb.block b hlt).trans hv,hown.kept (row:=none) ⟨hb.os,hb.tape,hb.output,hb.size,fun k hk _=>hb.block k hk⟩ (Classical.em _),hne⟩
 exact h.elim (fun x=>.inl (one _ x)) (fun x=>.inr (one _ x))
theorem tab_below {B:Nat} {w w':World} (h:Lib.TabIs Tryz.prog w "internal/strconv.uint64pow10" .u64 Lib.pow10Tab) (hb:Below B w w') (hB:2<B):Lib.TabIs Tryz.prog w' "internal/strconv.uint64pow10" .u64 Lib.pow10Tab:=by
 unfold Lib.TabIs World.var? at *;have hg:Tryz.prog.globalNamed "internal/strconv.uint64pow10"=some 2:=by kernel_rfl
 rw [hg] at h ⊢;simp only [Option.bind_some] at h ⊢;rw [hb.block 2 hB];exact h
theorem alloc2 (w:World) (o1 o2:Obj):((w.alloc o1).alloc o2).heap[w.heap.size+1]?=some o2:=by
 have:=heap_alloc_new (w.alloc o1) o2
 rwa [show (w.alloc o1).heap.size=w.heap.size+1 by simp] at this
theorem keyN_snoc (l:List Int) (z:Int):zko (l++[z])=zko l++(Lib.itoa z++[32]):=by simp [zko]
theorem keyS_snoc (l:List SItem) (x:SItem):keyS (l++[x])=keyS l++zko (zdn x):=by simp [keyS,zko,ze0]
theorem zqq {l:List Int} (h:∀z∈l,InR .i64 z):(zko l).length≤22*l.length:=by
 induction l with
 | nil=>simp [zko]
 | cons z l ih=>
  have h1:=zir.1 (h z (by simp));have h2:=Lib.itoa_length_le z h1.1 h1.2;have h3:=ih fun y hy=>h y (by simp [hy]);have e:zko (z::l)=(Lib.itoa z++[32])++zko l:=by simp [zko]
  rw [e];simp only [List.length_append,List.length_cons,List.length_nil];omega
theorem numsS_len (l:List SItem):(ze0 l).length=4*l.length:=by
 induction l with
 | nil=>rfl
 | cons x l ih=>simp only [ze0,List.flatMap_cons,List.length_append] at ih ⊢;rw [ih];simp [zdn];omega
set_option maxHeartbeats 4000000 in
set_option maxRecDepth 1000000 in
theorem key_walk (xs:List SItem) (a:Addr) (cap:Nat) (w:World) (hn:xs.length≤1000) (hz:∀x∈xs,∀z∈zdn x,InR .i64 z) (hc:zrb w a xs) (htab:Lib.TabIs Tryz.prog w "internal/strconv.uint64pow10" .u64 Lib.pow10Tab):
  Calls Tryz.prog 56 #[.slice (some a) xs.length cap] w fun e w'=>e = .returned (.string ⟨(keyS xs).toArray⟩)∧Below w.heap.size w w':=by
 have hpos:2<w.heap.size:=by
  have h:=htab;unfold Lib.TabIs World.var? at h;have hg:Tryz.prog.globalNamed "internal/strconv.uint64pow10"=some 2:=by kernel_rfl
  rw [hg] at h;simp only [Option.bind_some] at h;rcases Nat.lt_or_ge 2 w.heap.size with hh | hh
  ·exact hh
  ·rw [Array.getElem?_eq_none hh] at h;cases h
 have hlen:∀i,(keyS (xs.take i)).length≤88000:=fun i=>by
  have h1:=zqq (l:=ze0 (xs.take i)) fun z hzz=>by
   obtain ⟨x,hx,hzx⟩:=List.mem_flatMap.1 hzz;exact hz x (List.mem_of_mem_take hx) z hzx
  have h2:=numsS_len (xs.take i);have h3:(xs.take i).length≤xs.length:=by simp;omega
  show (zko (ze0 (xs.take i))).length≤_;omega
 go_enter Tryz.func56,Tryz.ntmps56
 go_wp2
 go_loopw [10] (fun v10 wr=>∃i:Nat,v10 = .int .i64 i∧i≤xs.length∧Lib.IsBuilderF 96 5 w.heap.size w.heap.size (Lib.byteCells (keyS (xs.take i))) wr∧Below w.heap.size w wr) (fun v10 _=>xs.length-(Lib.intOf v10).toNat)
 case atStart=>
  refine ⟨0,rfl,Nat.zero_le _,Lib.IsBuilderF.of (Lib.fresh_isBuilder 96 5 w),(Below.refl _ w).alloc (Nat.le_refl _) _⟩
 case round=>
  obtain ⟨i,rfl,hi,hB,hbw⟩:=hrel;obtain ⟨wo,hwo⟩:∃wo,wo=wr:=⟨wr,rfl⟩;subst hwo
  by_cases hlt:i<xs.length
  ·obtain ⟨x,hx⟩:∃x,xs[i]?=some x:=⟨xs[i],by simp [hlt]⟩;have hxm:x∈xs:=List.mem_of_getElem? hx;obtain ⟨c0,c1,c2,c3⟩:=hc.below hbw hc.1 hx;have hsz:=hbw.size;have hli:=hlen i
   go_wp2
   go_loopw [24] (fun v24 wi=>∃j:Nat,v24 = .int .i64 j∧j≤4∧Lib.IsBuilderF 96 5 w.heap.size w.heap.size (Lib.byteCells (keyS (xs.take i)++zko ((zdn x).take j))) wi∧wi.heap[wo.heap.size+1]?=some (.cells #[.int .i64 x.1,.int .i64 x.2.1,.int .i64 x.2.2.1,.int .i64 x.2.2.2] 3 (0,0))∧Below w.heap.size w wi) (fun v24 _=>4-(Lib.intOf v24).toNat)
   case atStart=>
    refine ⟨0,rfl,by omega, ?_, ?_, ?_⟩
    ·have:keyS (xs.take i)++zko ((zdn x).take 0)=keyS (xs.take i):=by simp [zko]
     rw [this];exact (hB.alloc _).alloc _
    ·exact alloc2 wo _ _
    ·exact (hbw.alloc hsz _).alloc (by simp;omega) _
   case round=>
    obtain ⟨j,rfl,hj,hBi,hgi,hbi⟩:=hrel
    by_cases hjl:j<4
    ·obtain ⟨z,hzj⟩:∃z,(zdn x)[j]?=some z:=⟨(zdn x)[j]'(by simpa [zdn] using hjl),by simp [zdn,hjl]⟩;have hzr:=zir.1 (hz x hxm z (List.mem_of_getElem? hzj));have hil:=Lib.itoa_length_le z hzr.1 hzr.2;have hll:(keyS (xs.take i)++zko ((zdn x).take j)).length≤88088:=by
      have h1:=zqq (l:=(zdn x).take j) fun y hy=>hz x hxm y (List.mem_of_mem_take hy);have h2:((zdn x).take j).length≤4:=by simp [zdn];omega
      rw [List.length_append];omega
     have hcell:wr.cell? ⟨wo.heap.size+1,j,none⟩=some (.int .i64 z):=by
      have e:(#[Value.int .i64 x.1,.int .i64 x.2.1,.int .i64 x.2.2.1,.int .i64 x.2.2.2]:Array Value)[j]?=((zdn x).map (Value.int .i64))[j]?:=by simp [zdn]
      rw [cell_of_row wr (wo.heap.size+1) _ _ 3 (0,0) hgi,e,List.getElem?_map,hzj];rfl
     have hszi:=hbi.size;have htk:keyS (xs.take i)++zko ((zdn x).take (j+1))=(keyS (xs.take i)++zko ((zdn x).take j))++(Lib.itoa z++[32]):=by
      rw [List.take_add_one,hzj,Option.toList_some,keyN_snoc,List.append_assoc]
     generalize hK:keyS (xs.take i)++zko ((zdn x).take j)=K at *
     go_wp2_with (go_at_call 93;refine (b_itoa z hzr.1 hzr.2 _ (tab_below htab hbi hpos)).mono ?_;rintro e w1 ⟨rfl,k,os,rfl⟩;refine Hid.out ?_)
     refine Lib.hid ?_;have hb1:Below wr.heap.size wr (Sort.grow (wr.drewN k) os):=Lib.below_grow _ wr (Nat.le_refl _) k os;generalize Sort.grow (wr.drewN k) os=W1 at *;have hB1:=zkx hBi hb1;have hgl:wo.heap.size+1<wr.heap.size:=(Array.getElem?_eq_some_iff.1 hgi).1;have hg1:=(hb1.block _ hgl).trans hgi;have hbi1:=hbi.trans (hb1.mono hszi);have hsz1:=hbi1.size
     go_wp2_with (go_at_call 69;refine (b_text w.heap.size w.heap.size _ ⟨(Lib.itoa z).toArray⟩ W1 hB1 (by rw [Lib.byteCells_length];show K.length+(Lib.itoa z).toArray.size≤_;simp;omega) hsz1).mono ?_;rintro e w2 ⟨rfl,h2,b2,k2⟩;refine Hid.out ?_)
     refine Lib.hid ?_;have hB2:Lib.IsBuilderF 96 5 w.heap.size w.heap.size (Lib.byteCells (K++Lib.itoa z)) w2:=by rw [Lib.byteCells_append];exact .inr h2
     have hg2:=k2 _ _ hg1 (by simp;omega) (by intro c fz he;cases he);have hsz2:=(hbi1.trans b2).size
     go_wp2_with (go_at_call 70;refine (b_byte w.heap.size w.heap.size _ 32 w2 hB2 (by rw [Lib.byteCells_length,List.length_append];omega) hsz2).mono ?_;rintro e w3 ⟨rfl,h3,b3,k3⟩;refine Hid.out ?_)
     refine Lib.hid ?_;have hB3:Lib.IsBuilderF 96 5 w.heap.size w.heap.size (Lib.byteCells (K++(Lib.itoa z++[32]))) w3:=by
      rw [← List.append_assoc,Lib.byteCells_append];exact .inr h3
     have hg3:=k3 _ _ hg2 (by simp;omega) (by intro c fz he;cases he);have hb3:=(hbi1.trans b2).trans b3
     go_wp2
     go_roundw
     case rel=>exact ⟨j+1,rfl,by omega,by rw [htk];exact hB3,hg3,hb3⟩
     case measure=>simp [Lib.intOf];omega
    ·have hj4:j=4:=by omega
     subst hj4
     go_wp2
     go_roundw
     case rel=>
      refine ⟨i+1,rfl,by omega, ?_,hbi⟩;have e:xs.take (i+1)=xs.take i++[x]:=by rw [List.take_add_one,hx];rfl
      rw [e,keyS_snoc];have e4:(zdn x).take 4=zdn x:=rfl;rw [e4] at hBi;exact hBi
     case measure=>simp [Lib.intOf];omega
  ·have hin:i=xs.length:=by omega
   subst hin
   go_wp2_with (go_at_call 71;refine (zmf w.heap.size w.heap.size _ _ hB hbw.size).mono ?_)
   rintro e W1 ⟨rfl,_,b1,_⟩
   go_wp2
   go_ret
   exact ⟨by simp,hbw.trans b1⟩
set_option maxHeartbeats 4000000 in
set_option maxRecDepth 1000000 in
theorem key_none (ad:Option Addr) (cap:Nat) (w:World):Calls Tryz.prog 56 #[.slice ad 0 cap] w fun e w'=>e = .returned (.string ⟨#[]⟩)∧Below w.heap.size w w':=by
 go_enter Tryz.func56,Tryz.ntmps56
 go_wp2
 go_loopw [10] (fun v10 wr=>v10 = .int .i64 0∧Lib.IsBuilderF 96 5 w.heap.size w.heap.size (Lib.byteCells []) wr∧Below w.heap.size w wr) (fun _ _=>0)
 case atStart=>
  exact ⟨rfl,Lib.IsBuilderF.of (Lib.fresh_isBuilder 96 5 w),(Below.refl _ w).alloc (Nat.le_refl _) _⟩
 case round=>
  obtain ⟨rfl,hB,hbw⟩:=hrel
  go_wp2_with (go_at_call 71;refine (zmf w.heap.size w.heap.size _ _ hB hbw.size).mono ?_)
  rintro e W1 ⟨rfl,_,b1,_⟩
  go_wp2
  go_ret
  exact ⟨rfl,hbw.trans b1⟩
theorem zqr {w:World} {S:Nat→Prop} {v:Value} {xs:List SItem} (h:SlV En.SItem w S v xs) (hS:∀b,S b→b<w.heap.size) (hne:xs≠[]):∃a cap,v = .slice (some a) xs.length cap∧zrb w a xs∧∀x∈xs,∀z∈zdn x,InR .i64 z:=by
 obtain ⟨ad,cap,rfl,h1,h2,h3,h4⟩:=h;obtain ⟨b,off,css,rfl,hb,hE,hc⟩:=h4 hne;have key:∀(i:Nat) (x:SItem),xs[i]?=some x→∃p q r t:Int,x=(p,q,r,t)∧InR .i64 p∧InR .i64 q∧InR .i64 r∧InR .i64 t∧css[i]?=some [.int .i64 p,.int .i64 q,.int .i64 r,.int .i64 t]:=by
  intro i x hx;have hlt:i<xs.length:=(List.getElem?_eq_some_iff.1 hx).1;obtain ⟨cs,hcs⟩:∃cs,css[i]?=some cs:=⟨css[i]'(by rw [hE.1];exact hlt),by simp⟩;obtain ⟨c0,r0,rfl,⟨rfl,i0⟩,c1,r1,rfl,⟨rfl,i1⟩,c2,c3,rfl,⟨rfl,i2⟩,⟨rfl,i3⟩⟩:=hE.2 i cs x hcs hx;exact ⟨_,_,_,_,rfl,i0,i1,i2,i3,hcs⟩
 refine ⟨⟨b,off,none⟩,cap,rfl,⟨hS b hb,fun i x hx=>?_⟩,fun x hx z hz=>?_⟩
 ·obtain ⟨p,q,r,t,rfl,_,_,_,_,hcs⟩:=key i x hx;have hf:=fun (j:Nat) (u:Value) (hu:[Value.int .i64 p,.int .i64 q,.int .i64 r,.int .i64 t][j]?=some u)=>hc _ u (zg0 hE.lens hcs hu);have hsz:En.SItem.sz=4:=rfl;rw [hsz] at hf;rw [zey];refine ⟨hf 0 _ rfl, ?_, ?_, ?_⟩
  ·have:=hf 1 _ rfl;rw [← Nat.add_assoc] at this;exact this
  ·have:=hf 2 _ rfl;rw [← Nat.add_assoc] at this;exact this
  ·have:=hf 3 _ rfl;rw [← Nat.add_assoc] at this;exact this
 ·obtain ⟨i,hi⟩:=List.getElem?_of_mem hx;obtain ⟨p,q,r,t,rfl,i0,i1,i2,i3,_⟩:=key i x hi;simp only [zdn,List.mem_cons,List.not_mem_nil,or_false] at hz;rcases hz with rfl | rfl | rfl | rfl <;> assumption
theorem zqp {l:List SItem} (h:∀x∈l,∀z∈zdn x,InR .i64 z):(keyS l).length≤88*l.length:=by
 have h1:=zqq (l:=ze0 l) fun z hzz=>by
  obtain ⟨x,hx,hzx⟩:=List.mem_flatMap.1 hzz;exact h x hx z hzx
 have h2:=numsS_len l;show (zko (ze0 l)).length≤_;omega
theorem zh0 {s_:(List SItem)} {r_:Str} (h:zkq s_ r_):Fn Tryz.prog 56 [(Pd.rep (En.slice En.SItem) s_)] (Rq (Pd.rep En.str r_)):=by
 obtain ⟨hn,rfl⟩:=h;refine ⟨ze6 Tryz.func56 rfl (by rfl),fun s vs hgl hv=>?_⟩
 match vs,hv with
 | [v],⟨hv,_⟩=>
  have hsl:=zcf.1 hv;have fin:∀(x:Str) (w':World),x.length≤9223372036854775807→Below s.w.heap.size s.w w'→∃(v:Value) (s':St),Ending.returned (.string ⟨x.toArray⟩) = .returned v∧s'.w=w'∧Ex s s'∧Rq (Pd.rep En.str x) s s' v:=fun x w' hx hb=>
   ⟨_,⟨w',s.X,fun b hb'=>Nat.lt_of_lt_of_le (s.lt b hb') hb.size⟩,rfl,rfl,⟨⟨DR.kit,hb.os,hb.tape,hb.output,hb.size,fun b hb' _=>hb.block b hb',fun _ h=>h.elim,fun b h=>.inl h⟩,fun b h=>h⟩,zm2.2 ⟨rfl,hx⟩⟩
  by_cases hne:s_=[]
  ·subst hne;obtain ⟨ad,cap,rfl,_⟩:=hsl;refine (key_none ad cap s.w).mono fun e w' ⟨he,hb⟩=>?_;subst he;exact fin [] w' (by simp) hb
  ·obtain ⟨a,cap,rfl,hat,hz⟩:=zqr hsl (fun b hb=>hb.1) hne;have htab:Lib.TabIs Tryz.prog s.w "internal/strconv.uint64pow10" .u64 Lib.pow10Tab:=by
    obtain ⟨_,t,fr,h2⟩:=hgl.1 _ (by unfold gtab;exact List.mem_cons_self);unfold Lib.TabIs World.var?;have hg:Tryz.prog.globalNamed "internal/strconv.uint64pow10"=some 2:=by kernel_rfl
    rw [hg];simp only [Option.bind_some];rw [h2];simp [Lib.pow10Tab]
   have hl:=zqp hz;refine (key_walk s_ a cap s.w hn hz hat htab).mono fun e w' ⟨he,hb⟩=>?_;subst he;exact fin _ w' (by omega) hb
theorem SlV.same {α:Type} {E:En α} {w w':World} {S:Nat→Prop} {v:Value} {xs:List α} (hs:Same S w w') (h:SlV E w S v xs):SlV E w' S v xs:=by
 have:=(En.slice E).move hs (cs:=[v]) (x:=xs) ⟨v,rfl,h⟩;obtain ⟨u,e,k⟩:=this;injection e with e1 e2;subst e1;exact k
theorem key_any (xs:List SItem) (v:Value) (w:World) (hn:xs.length≤1000) (hv:SlV En.SItem w (fun b=>b<w.heap.size) v xs) (htab:Lib.TabIs Tryz.prog w "internal/strconv.uint64pow10" .u64 Lib.pow10Tab):
  Calls Tryz.prog 56 #[v] w fun e w'=>e = .returned (.string ⟨(keyS xs).toArray⟩)∧Below w.heap.size w w':=by
 by_cases hne:xs=[]
 ·subst hne;obtain ⟨ad,cap,rfl,_⟩:=hv;exact key_none ad cap w
 ·obtain ⟨a,cap,rfl,hat,hz⟩:=zqr hv (fun b hb=>hb) hne;exact key_walk xs a cap w hn hz hat htab
theorem keyL_snoc (l:List (List SItem)) (x:List SItem):zl4 (l++[x])=zl4 l++(keyS x++[47]):=by simp [zl4]
def StatesAt (w:World) (a:Addr) (l:List (List SItem)):Prop:=a.block<w.heap.size∧∀(i:Nat) (x:List SItem),l[i]?=some x→∃v,w.cell? (a.add i)=some v∧SlV En.SItem w (fun b=>b<w.heap.size) v x
theorem states_z {w:World} {S:Nat→Prop} {v:Value} {xs:List SItem} (h:SlV En.SItem w S v xs) (hS:∀b,S b→b<w.heap.size):∀x∈xs,∀z∈zdn x,InR .i64 z:=by
 by_cases hne:xs=[]
 ·subst hne;intro x hx;cases hx
 ·obtain ⟨_,_,_,_,hz⟩:=zqr h hS hne;exact hz
theorem keyL_len {l:List (List SItem)} (h:∀s∈l,s.length≤1000∧∀x∈s,∀z∈zdn x,InR .i64 z):(zl4 l).length≤88001*l.length:=by
 induction l with
 | nil=>simp [zl4]
 | cons s l ih=>
  have h1:=h s (by simp);have h2:=zqp h1.2;have h3:=ih fun u hu=>h u (by simp [hu]);have e:zl4 (s::l)=(keyS s++[47])++zl4 l:=by simp [zl4]
  rw [e];simp only [List.length_append,List.length_cons,List.length_nil];omega
set_option maxHeartbeats 4000000 in
set_option maxRecDepth 1000000 in
theorem skey_walk (l:List (List SItem)) (a:Addr) (cap:Nat) (w:World) (hn:l.length≤1000000000) (hl:∀s∈l,s.length≤1000) (hc:StatesAt w a l) (htab:Lib.TabIs Tryz.prog w "internal/strconv.uint64pow10" .u64 Lib.pow10Tab):
  Calls Tryz.prog 35 #[.slice (some a) l.length cap] w fun e w'=>e = .returned (.string ⟨(zl4 l).toArray⟩)∧Below w.heap.size w w':=by
 have hpos:2<w.heap.size:=by
  have h:=htab;unfold Lib.TabIs World.var? at h;have hg:Tryz.prog.globalNamed "internal/strconv.uint64pow10"=some 2:=by kernel_rfl
  rw [hg] at h;simp only [Option.bind_some] at h;rcases Nat.lt_or_ge 2 w.heap.size with hh | hh
  ·exact hh
  ·rw [Array.getElem?_eq_none hh] at h;cases h
 have hzz:∀s∈l,s.length≤1000∧∀x∈s,∀z∈zdn x,InR .i64 z:=fun s hs=>by
  obtain ⟨i,hi⟩:=List.getElem?_of_mem hs;obtain ⟨v,_,h2⟩:=hc.2 i s hi;exact ⟨hl s hs,states_z h2 fun b hb=>hb⟩
 have hlen:∀i,(zl4 (l.take i)).length≤88001000000000:=fun i=>by
  have h1:=keyL_len (l:=l.take i) fun s hs=>hzz s (List.mem_of_mem_take hs);have h3:(l.take i).length≤l.length:=by simp;omega
  omega
 go_enter Tryz.func35,Tryz.ntmps35
 go_wp2
 go_loopw [8] (fun v8 wr=>∃i:Nat,v8 = .int .i64 i∧i≤l.length∧Lib.IsBuilderF 96 5 w.heap.size w.heap.size (Lib.byteCells (zl4 (l.take i))) wr∧Below w.heap.size w wr) (fun v8 _=>l.length-(Lib.intOf v8).toNat)
 case atStart=>
  refine ⟨0,rfl,Nat.zero_le _,Lib.IsBuilderF.of (Lib.fresh_isBuilder 96 5 w),(Below.refl _ w).alloc (Nat.le_refl _) _⟩
 case round=>
  obtain ⟨i,rfl,hi,hB,hbw⟩:=hrel
  by_cases hlt:i<l.length
  ·obtain ⟨x,hx⟩:∃x,l[i]?=some x:=⟨l[i],by simp [hlt]⟩;have hxm:x∈l:=List.mem_of_getElem? hx;obtain ⟨v,c0,hsv⟩:=hc.2 i x hx;have c1:wr.cell? (a.add i)=some v:=by rw [hbw.cell (by rw [ziu];exact hc.1)];exact c0
   have hsz:=hbw.size;have hsv1:SlV En.SItem wr (fun b=>b<wr.heap.size) v x:=by
    have h1:=SlV.same (w':=wr) (fun b hb=>hbw.block b hb) hsv;obtain ⟨u,e,k⟩:=(En.slice En.SItem).mono (S':=fun b=>b<wr.heap.size) (fun b hb=>Nat.lt_of_lt_of_le hb hsz) (cs:=[v]) (x:=x) ⟨v,rfl,h1⟩;injection e with e1 e2;subst e1;exact k
   have hli:=hlen i;have hkl:=zqp (hzz x hxm).2;have hx1000:=hl x hxm;have htk:zl4 (l.take (i+1))=zl4 (l.take i)++(keyS x++[47]):=by
    rw [List.take_add_one,hx,Option.toList_some,keyL_snoc]
   generalize hK:zl4 (l.take i)=K at *
   go_wp2_with (go_at_call 56;refine (key_any x v _ hx1000 hsv1 (tab_below htab hbw hpos)).mono ?_;rintro e w1 ⟨rfl,hb1⟩;refine Hid.out ?_)
   refine Lib.hid ?_;have hB1:=zkx hB hb1;have hbw1:=hbw.trans (hb1.mono hsz);have hsz1:=hbw1.size
   go_wp2_with (go_at_call 69;refine (b_text w.heap.size w.heap.size _ ⟨(keyS x).toArray⟩ w1 hB1 (by rw [Lib.byteCells_length];show K.length+(keyS x).toArray.size≤_;simp;omega) hsz1).mono ?_;rintro e w2 ⟨rfl,h2,b2,k2⟩;refine Hid.out ?_)
   refine Lib.hid ?_;have hB2:Lib.IsBuilderF 96 5 w.heap.size w.heap.size (Lib.byteCells (K++keyS x)) w2:=by rw [Lib.byteCells_append];exact .inr h2
   have hsz2:=(hbw1.trans b2).size
   go_wp2_with (go_at_call 70;refine (b_byte w.heap.size w.heap.size _ 47 w2 hB2 (by rw [Lib.byteCells_length,List.length_append];omega) hsz2).mono ?_;rintro e w3 ⟨rfl,h3,b3,k3⟩;refine Hid.out ?_)
   refine Lib.hid ?_;have hB3:Lib.IsBuilderF 96 5 w.heap.size w.heap.size (Lib.byteCells (K++(keyS x++[47]))) w3:=by
    rw [← List.append_assoc,Lib.byteCells_append];exact .inr h3
   have hb3:=(hbw1.trans b2).trans b3
   go_wp2
   go_roundw
   case rel=>exact ⟨i+1,rfl,by omega,by rw [htk];exact hB3,hb3⟩
   case measure=>simp [Lib.intOf];omega
  ·have hin:i=l.length:=by omega
   subst hin
   go_wp2_with (go_at_call 71;refine (zmf w.heap.size w.heap.size _ _ hB hbw.size).mono ?_)
   rintro e W1 ⟨rfl,_,b1,_⟩
   go_wp2
   go_ret
   exact ⟨by simp,hbw.trans b1⟩
set_option maxHeartbeats 4000000 in
set_option maxRecDepth 1000000 in
theorem skey_none (ad:Option Addr) (cap:Nat) (w:World):Calls Tryz.prog 35 #[.slice ad 0 cap] w fun e w'=>e = .returned (.string ⟨#[]⟩)∧Below w.heap.size w w':=by
 go_enter Tryz.func35,Tryz.ntmps35
 go_wp2
 go_loopw [8] (fun v8 wr=>v8 = .int .i64 0∧Lib.IsBuilderF 96 5 w.heap.size w.heap.size (Lib.byteCells []) wr∧Below w.heap.size w wr) (fun _ _=>0)
 case atStart=>
  exact ⟨rfl,Lib.IsBuilderF.of (Lib.fresh_isBuilder 96 5 w),(Below.refl _ w).alloc (Nat.le_refl _) _⟩
 case round=>
  obtain ⟨rfl,hB,hbw⟩:=hrel
  go_wp2_with (go_at_call 71;refine (zmf w.heap.size w.heap.size _ _ hB hbw.size).mono ?_)
  rintro e W1 ⟨rfl,_,b1,_⟩
  go_wp2
  go_ret
  exact ⟨rfl,hbw.trans b1⟩
theorem sets_Key_ok {l_:(List (List SItem))} {r_:Str} (h:zgv l_ r_):Fn Tryz.prog 35 [(Pd.rep (En.slice (En.slice En.SItem)) l_)] (Rq (Pd.rep En.str r_)):=by
 obtain ⟨hn,hl,rfl⟩:=h;refine ⟨ze6 Tryz.func35 rfl (by rfl),fun s vs hgl hv=>?_⟩
 match vs,hv with
 | [v],⟨hv,_⟩=>
  have hsl:=zcf.1 hv;have fin:∀(x:Str) (w':World),x.length≤9223372036854775807→Below s.w.heap.size s.w w'→∃(v:Value) (s':St),Ending.returned (.string ⟨x.toArray⟩) = .returned v∧s'.w=w'∧Ex s s'∧Rq (Pd.rep En.str x) s s' v:=fun x w' hx hb=>
   ⟨_,⟨w',s.X,fun b hb'=>Nat.lt_of_lt_of_le (s.lt b hb') hb.size⟩,rfl,rfl,⟨⟨DR.kit,hb.os,hb.tape,hb.output,hb.size,fun b hb' _=>hb.block b hb',fun _ h=>h.elim,fun b h=>.inl h⟩,fun b h=>h⟩,zm2.2 ⟨rfl,hx⟩⟩
  by_cases hne:l_=[]
  ·subst hne;obtain ⟨ad,cap,rfl,_⟩:=hsl;refine (skey_none ad cap s.w).mono fun e w' ⟨he,hb⟩=>?_;subst he;exact fin [] w' (by simp) hb
  ·obtain ⟨ad,cap,rfl,h1,h2,h3,h4⟩:=hsl;obtain ⟨b,off,css,rfl,hb,hE,hc⟩:=h4 hne;have hat:StatesAt s.w ⟨b,off,none⟩ l_:=by
    refine ⟨hb.1,fun i x hx=>?_⟩;have hlt:i<l_.length:=(List.getElem?_eq_some_iff.1 hx).1;obtain ⟨cs,hcs⟩:∃cs,css[i]?=some cs:=⟨css[i]'(by rw [hE.1];exact hlt),by simp⟩;obtain ⟨u,rfl,hu⟩:=hE.2 i cs x hcs hx;refine ⟨u, ?_, ?_⟩
    ·have:=hc _ u (zg0 hE.lens hcs (j:=0) rfl);have e1:(En.slice En.SItem).sz=1:=rfl;rw [e1,Nat.mul_one] at this;rw [zey];exact this
    ·obtain ⟨u',e,k⟩:=(En.slice En.SItem).mono (S':=fun b=>b<s.w.heap.size) (fun b hb=>hb.1) (cs:=[u]) (x:=x) ⟨u,rfl,hu⟩;injection e with e1 e2;subst e1;exact k
   have htab:Lib.TabIs Tryz.prog s.w "internal/strconv.uint64pow10" .u64 Lib.pow10Tab:=by
    obtain ⟨_,t,fr,h2⟩:=hgl.1 _ (by unfold gtab;exact List.mem_cons_self);unfold Lib.TabIs World.var?;have hg:Tryz.prog.globalNamed "internal/strconv.uint64pow10"=some 2:=by kernel_rfl
    rw [hg];simp only [Option.bind_some];rw [h2];simp [Lib.pow10Tab]
   have hzz:∀s'∈l_,s'.length≤1000∧∀x∈s',∀z∈zdn x,InR .i64 z:=fun s' hs=>by
    obtain ⟨i,hi⟩:=List.getElem?_of_mem hs;obtain ⟨v,_,h2⟩:=hat.2 i s' hi;exact ⟨hl s' hs,states_z h2 fun b hb=>hb⟩
   have hll:=keyL_len hzz;refine (skey_walk l_ ⟨b,off,none⟩ cap s.w hn hl hat htab).mono fun e w' ⟨he,hb⟩=>?_;subst he;exact fin _ w' (by omega) hb
end Go.Proofs.YtahgmdbioafmbaaGreatDoor.V
namespace Go.Proofs.YtahgmdbioafmbaaGreatDoor.V
open Go
set_option linter.unusedVariables false
def Pd.zr (N te sz g len:Nat):Pd:=
 ⟨fun s v=>N≤g∧s.X g∧∃cap cur,v = .slice (some ⟨g,0,none⟩) len cap∧s.w.heap[g]?=some (.cells cur te (0,0))∧cur.size=cap*sz∧cap≤maxLen∧len≤cap,fun b=>some g=some b,
  fun {T s s' v} h hb ⟨h1,h2,cap,cur,h3,h4,h5⟩=>⟨h1,(hb g rfl).2 h2,cap,cur,h3,by rw [h.blk g (Array.getElem?_eq_some_iff.1 h4).1 (hb g rfl).1];exact h4,h5⟩⟩
section
variable {P : Program} {ops : Array Oper} {o : Oper} {L : Lst} {α : Type} {E : En α} {xs : List α}
theorem t_capn {y:Operand} {t te:TypeId} (hy:Opn L y (Pd.rep (En.nilv E) xs)) (ht:P.underlying t=some (.slice te)) (ho:o.op = .call { callee:=.builtin .cap,args:=#[y],argTypes:=#[t] }) (hg:o.guard=none):T P ops o L (Pd.rep (En.int .i64) 0):=
 T.pure hg fun M n s0 ac s hL=>by
  have hv:=(zgw.1 (hy M n s0 ac s hL)).1;refine ⟨.int .i64 0, ?_,zbd.2 ⟨rfl,by decide⟩⟩;unfold execOp;rw [ho];simp [resolve,invoke,builtin,hv,Builtin.cap_,run_underlying ht,goInt]
theorem t_lenn {y:Operand} {t te:TypeId} (hy:Opn L y (Pd.rep (En.nilv E) xs)) (ht:P.underlying t=some (.slice te)) (ho:o.op = .call { callee:=.builtin .len,args:=#[y],argTypes:=#[t] }) (hg:o.guard=none):T P ops o L (Pd.rep (En.int .i64) 0):=
 T.pure hg fun M n s0 ac s hL=>by
  have hv:=(zgw.1 (hy M n s0 ac s hL)).1;refine ⟨.int .i64 0, ?_,zbd.2 ⟨rfl,by decide⟩⟩;unfold execOp;rw [ho];simp [resolve,invoke,builtin,hv,Builtin.len_,run_underlying ht,goInt]
theorem t_to0 {y z:Operand} {t te:TypeId} (hy:Opn L y (Pd.rep (En.nilv E) xs)) (hz:Opn L z (Pd.rep (En.int .i64) 0)) (ht:P.underlying t=some (.slice te)) (hE:Ty P te E) (ho:o.op = .slice t y none (some z) none) (hg:o.guard=none):T P ops o L (Pd.rep (En.nilv E) xs):=
 T.pure hg fun M n s0 ac s hL=>by
  obtain ⟨hv,hxs⟩:=zgw.1 (hy M n s0 ac s hL);have hzv:=(zbd.1 (hz M n s0 ac s hL)).1;refine ⟨.slice none 0 0, ?_,zgw.2 ⟨rfl,hxs⟩⟩;unfold execOp;rw [ho];simp [hv,hzv,Instr.sliceAt,run_underlying ht,Instr.slice,Instr.sliceBounds,Instr.sliceBound,asIntOf,zbq hE]
theorem st_zeros {Q:Exit→Act→World→Prop} {rest:List Oper} {M:Nat→Prop} {n:Nat} {s0:St} {a:Act} {s:St} {t u te:TypeId} {x y:Operand} {k:Int} (d:Nat) (hL:Has M n s0 a s L) (hx:Opn L x (Pd.rep (En.nilv E) xs)) (hy:Opn L y (Pd.rep (En.int .i64) k)) (hk0:0<k) (hk1:k≤2147483648)
  (ht:P.underlying t=some (.slice te)) (hu:P.underlying u=some (.int .i64)) (hE:Ty P te E) (ho:o.op = .call { callee:=.builtin .append,args:=#[x,y],argTypes:=#[t,u] }) (hg:o.guard=none) (hd:o.dst=some d) (hn:Nat.blt d n=true)
  (kk:∀a' s' g,Has M n s0 a' s' ((d,Pd.zr s0.w.heap.size te E.sz g k.toNat)::L)→wpList P ops Q rest a' s'.w):wpList P ops Q (o::rest) a s.w:=by
 obtain ⟨hv,_⟩:=zgw.1 (hx M n s0 a s hL);have hkv:=(zbd.1 (hy M n s0 a s hL)).1;obtain ⟨i,z,hi,hsz,hz,hzs,hby⟩:=hE.info;obtain ⟨j,rfl⟩:∃j:Nat,k=(j:Int):=⟨k.toNat,by omega⟩;have hj:0<j:=by omega
 have hcap:j≤grownCap s.w j 0 te:=grownCap_ge _ _ _ _;have hr:(execOp a.eval o).run P s.w = .ok (.value (.slice (some ⟨s.w.heap.size,0,none⟩) j (grownCap s.w j 0 te))) (s.w.drew.alloc (.cells (Builtin.zeroCells z.cells j++Builtin.zeroCells z.cells (grownCap s.w j 0 te-j)) te)):=by
  unfold execOp;rw [ho];have h0:¬ ((j:Int)<0):=by omega
  have hw:IntKind.wrap .i64 (j:Int)=j:=zg2 (zir.2 ⟨by omega,by omega⟩);have hb:j*i.bytes≤140737488355328:=by
   have:=Nat.mul_le_mul (show j≤2147483648 by omega) hby;omega
  have hb2:¬ ((281474976710656:Int)<(j:Int)*(i.bytes:Int)):=by
   rw [← Int.natCast_mul];omega
  have h48:¬ (281474976710656<Builtin.nextslicecap j 0*i.bytes):=by rw [nextslicecap_zero hj];omega
  have h63:¬ (9223372036854775807<(j:Int)):=by omega
  have hjn:¬ j=0:=by omega
  have hs0:¬ (j*E.sz=0):=by have:=Nat.mul_pos hj E.pos;omega
  simp [resolve,invoke,builtin,hv,hkv,Builtin.append_,run_underlying ht,run_underlying hu,sizeOf,typeInfo,zeroValue,hi,hz,asInt,asIntOf,h0,hw,hjn,hb2,h48,h63,hs0,hsz,Question.forced,newRow,grownCap,run_firstCells_none]
 refine wpList_plain hg fun K hK=>?_;unfold Oper.wp;rw [hr];refine hK _ _ ?_;simp only [hd];have e:Ex s ⟨(s.w.drew.alloc (.cells (Builtin.zeroCells z.cells j++Builtin.zeroCells z.cells (grownCap s.w j 0 te-j)) te)),fun b=>s.X b∨b=s.w.heap.size,fun b hb=>hb.elim (fun h=>Nat.lt_of_lt_of_le (s.lt b h) (by simp)) (fun h=>by subst h;simp)⟩:=
  ⟨⟨DR.succ rfl,rfl,rfl,rfl,by simp,fun b hb _=>Go.RowKit.Below.heap_alloc s.w.drew _ b hb,fun _ h=>h.elim,fun b hb=>hb.imp id (fun h=>Nat.le_of_eq h.symm)⟩,fun b hb=>.inl hb⟩
 refine kk _ _ s.w.heap.size (hL.put e hn ⟨hL.ent.mv.size,.inr rfl,grownCap s.w j 0 te,_,rfl,heap_alloc_new s.w.drew _, ?_,grownCap_le_maxLen _ _ _ _ (by unfold maxLen;omega),hcap⟩);simp only [Array.size_append,size_zeroCells,hzs];rw [← Nat.add_mul]
 congr 1
 omega
theorem t_row0 {t te:TypeId} {x z:Operand} {N g len:Nat} (hx:Opn L x (Pd.zr N te E.sz g len)) (hz:Opn L z (Pd.rep (En.int .i64) 0)) (ht:P.underlying t=some (.slice te)) (hE:Ty P te E) (ho:o.op = .slice t x none (some z) none) (hg:o.guard=none):T P ops o L (Pd.row E N te (some g) []):=
 T.pure hg fun M n s0 a s hL=>by
  obtain ⟨hN,hX,cap,cur,hv,hgb,hcs,hcm,hlc⟩:=hx M n s0 a s hL;have hzv:=(zbd.1 (hz M n s0 a s hL)).1;refine ⟨.slice (some ⟨g,0,none⟩) 0 cap, ?_,rfl,fun b hb=>by cases hb;exact hX,Nat.zero_le _,[],⟨rfl,by simp⟩,by simp,.inr ⟨g,cap,cur,rfl,hN,hgb,Nat.zero_le _,hcm,hcs,by simp⟩⟩;unfold execOp;rw [ho];simp [hv,hzv,Instr.sliceAt,run_underlying ht,Instr.slice,Instr.sliceBounds,Instr.sliceBound,asIntOf,zbq hE,Addr.add]
end
set_option maxRecDepth 100000
theorem zfe {x_:List SItem} {n_:Int} {r_:List SItem} (h:zd1 x_ n_ r_):Fn Tryz.prog 145 [(Pd.rep (En.nilv En.SItem) x_),(Pd.rep (En.int .i64) n_)] (Ro En.SItem 77 r_):=by
 obtain ⟨h0,h1,rfl⟩:=h;refine zbx Tryz.func145 rfl Tryz.ntmps145 (by rfl) (by simp) fun s0 a hL=>?_;refine wp_seq_k fun K1 hK1=>?_;refine rg ?_;refine st 4 (zb (q:=Pd.any) (fun _ _ _ _ _ _=>trivial) rfl rfl) rfl rfl hL fun a s e_ hL=>?_;refine en' ?_;show K1 a s.w;refine hK1 _ _ ?_;refine wp_seq_k fun K2 hK2=>?_;refine wp_seq_k fun K3 hK3=>?_;refine rg ?_;refine st 5 (zd (o_t 1 rfl) rfl rfl) rfl rfl hL fun a s e_ hL=>?_;refine st 6 (zbz (o_t 5 rfl) (o_i (by decide)) rfl rfl) rfl rfl hL fun a s e_ hL=>?_;refine en' ?_;show K3 a s.w;refine hK3 _ _ ?_;refine cnd hL rfl (fun hb_=>absurd hb_ (by simp;omega)) (fun _=>?_);refine wp_skip ?_;show K2 a s.w;refine hK2 _ _ ?_;refine wp_seq_k fun K4 hK4=>?_;refine wp_seq_k fun K5 hK5=>?_;refine rg ?_;refine st 8 (zd (o_t 1 rfl) rfl rfl) rfl rfl hL fun a s e_ hL=>?_;refine st 9 (zd (o_t 0 rfl) rfl rfl) rfl rfl hL fun a s e_ hL=>?_;refine st 10 (t_capn (o_t 9 rfl) Tryz.underlying47 rfl rfl) rfl rfl hL fun a s e_ hL=>?_;refine st 11 (zd (o_t 0 rfl) rfl rfl) rfl rfl hL fun a s e_ hL=>?_;refine st 12 (t_lenn (o_t 11 rfl) Tryz.underlying47 rfl rfl) rfl rfl hL fun a s e_ hL=>?_;refine st 13 (zdy (o_t 10 rfl) (o_t 12 rfl) (by decide) rfl rfl) rfl rfl hL fun a s e_ hL=>?_;refine st 14 (zdy (o_t 8 rfl) (o_t 13 rfl) (zir.2 ⟨by omega,by omega⟩) rfl rfl) rfl rfl hL fun a s e_ hL=>?_;refine st 1 (zb (o_t 14 rfl) rfl rfl) rfl rfl hL fun a s e_ hL=>?_;refine en' ?_;show K5 a s.w;refine hK5 _ _ ?_;refine wp_seq_k fun K6 hK6=>?_;refine rg ?_;refine st 15 (zd (o_t 1 rfl) rfl rfl) rfl rfl hL fun a s e_ hL=>?_
 refine st 16 (zhd (o_t 15 rfl) (o_i (by decide)) rfl rfl) rfl rfl hL fun a s e_ hL=>?_;refine en' ?_;show K6 a s.w;refine hK6 _ _ ?_;have fin:∀(a:Act) (s:St) (L:Lst) (og:Option Nat),Has N0 27 s0 a s L→lk L 0=some (Pd.row En.SItem s0.w.heap.size 77 og [])→K4 a s.w:=fun a s L og hL h0=>by
  refine hK4 _ _ ?_;refine wp_seq_k fun K7 hK7=>?_;refine rg ?_;refine st 26 (zd (o_t 0 h0) rfl rfl) rfl rfl hL fun a s e_ hL=>?_;refine st 4 (zb (o_t 26 rfl) rfl rfl) rfl rfl hL fun a s e_ hL=>?_;refine en' ?_;show K7 a s.w;refine hK7 _ _ ?_;exact wp_ret (zjn rfl hL rfl)
 refine cnd hL rfl (fun hb_=>?_) (fun hb_=>?_)
 ·have hpos:0<n_-(0-0):=by simpa using hb_
  refine rg ?_;refine st 17 (zd (o_t 0 rfl) rfl rfl) rfl rfl hL fun a s e_ hL=>?_;refine st 18 (zd (o_t 0 rfl) rfl rfl) rfl rfl hL fun a s e_ hL=>?_;refine st 19 (t_capn (o_t 18 rfl) Tryz.underlying47 rfl rfl) rfl rfl hL fun a s e_ hL=>?_;refine st 20 (t_to0 (o_t 17 rfl) (o_t 19 rfl) Tryz.underlying47 zfk rfl rfl) rfl rfl hL fun a s e_ hL=>?_;refine st 21 (zd (o_t 1 rfl) rfl rfl) rfl rfl hL fun a s e_ hL=>?_;refine st_zeros 22 hL (o_t 20 rfl) (o_t 21 rfl) hpos (by omega) Tryz.underlying47 Tryz.underlying3 zfk rfl rfl rfl rfl fun a s g hL=>?_;refine st 23 (zd (o_t 0 rfl) rfl rfl) rfl rfl hL fun a s e_ hL=>?_;refine st 24 (t_lenn (o_t 23 rfl) Tryz.underlying47 rfl rfl) rfl rfl hL fun a s e_ hL=>?_;refine st 25 (t_row0 (o_t 22 rfl) (o_t 24 rfl) Tryz.underlying47 zfk rfl rfl) rfl rfl hL fun a s e_ hL=>?_;refine st 0 (zb (o_t 25 rfl) rfl rfl) rfl rfl hL fun a s e_ hL=>?_;refine en' ?_;exact fin a s _ (some g) hL rfl
 ·refine wp_skip ?_;have hv:=(zgw.1 (hL.get 0 rfl)).1;have hx:=(zgw.1 (hL.get 0 rfl)).2;have hL2:=hL.cons 0 (q:=Pd.row En.SItem s0.w.heap.size 77 none []) (by rw [hv];exact own_nil _ _ _ _);exact fin a s _ none hL2 rfl
end Go.Proofs.YtahgmdbioafmbaaGreatDoor.V
namespace Go.Proofs.YtahgmdbioafmbaaGreatDoor.V
open Go
set_option linter.unusedVariables false
def zk.j1 (r_:(List SItem)) (newslice13:(List SItem)):Prop:=r_=newslice13
def zk.l1 (slices_:(List (List SItem))) (X1:(List SItem)→Prop):Nat→(List SItem)→Int→Prop
 | 0,_,_=>False
 | k_0+1,newslice17,v19=>((decide (v19<(slices_.length:Int)))=true→∃e27:(List SItem),at? slices_ v19=some e27∧(newslice17.length+e27.length≤2147483648)∧(InR .i64 (v19+1))∧zk.l1 slices_ X1 k_0 (newslice17++e27) (v19+1))∧((decide (v19<(slices_.length:Int)))=false→X1 newslice17)
def zk.j2 (slices_:(List (List SItem))) (r_:(List SItem)) (size5:Int):Prop:=∃r8:(List SItem),zd1 [] size5 r8∧∃k20,zk.l1 slices_ (zk.j1 r_) k20 r8 0
def zk.l2 (slices_:(List (List SItem))) (X2:Int→Prop):Nat→Int→Int→Prop
 | 0,_,_=>False
 | k_0+1,size32,v33=>((decide (v33<(slices_.length:Int)))=true→∃e41:(List SItem),at? slices_ v33=some e41∧(InR .i64 (size32+(e41.length:Int)))∧((decide (size32+(e41.length:Int)<0))=true→False)∧((decide (size32+(e41.length:Int)<0))=false→(InR .i64 (v33+1))∧zk.l2 slices_ X2 k_0 (size32+(e41.length:Int)) (v33+1)))∧((decide (v33<(slices_.length:Int)))=false→X2 size32)
def zk (slices_:(List (List SItem))) (r_:(List SItem)):Prop:=∃k34,zk.l2 slices_ (zk.j2 slices_ r_) k34 0 0
def zeu (x_:Int) (r_:Bool):Prop:=r_=(x_ != x_)
def zc5 (x_:Int) (y_:Int) (r_:Int):Prop:=∃r3:Bool,zeu x_ r3∧∃r6:Bool,zeu y_ r6∧((r3)=true→((r6)=true→r_=0)∧((r6)=false→r_=(-1)))∧((r3)=false→((r6)=true→r_=1)∧((r6)=false→((decide (x_<y_))=true→r_=(-1))∧((decide (x_<y_))=false→((decide (y_<x_))=true→r_=1)∧((decide (y_<x_))=false→r_=0))))
def zi.j1 (s1_:(List SItem)) (s2_:(List SItem)) (r_:Int):Prop:=((decide ((s1_.length:Int)<(s2_.length:Int)))=true→r_=(-1))∧((decide ((s1_.length:Int)<(s2_.length:Int)))=false→r_=0)
def zi.l1 (s1_:(List SItem)) (s2_:(List SItem)) (cmp_:(SItem × SItem × Int→Prop)) (r_:Int) (X1:Prop):Nat→Int→Prop
 | 0,_=>False
 | k_0+1,v9=>((decide (v9<(s1_.length:Int)))=true→∃e17:SItem,at? s1_ v9=some e17∧((decide ((s2_.length:Int)≤v9))=true→r_=1)∧((decide ((s2_.length:Int)≤v9))=false→∃e24:SItem,at? s2_ v9=some e24∧∃r29:Int,cmp_ (e17,e24,r29)∧(((r29 != 0))=true→r_=r29)∧(((r29 != 0))=false→(InR .i64 (v9+1))∧zi.l1 s1_ s2_ cmp_ r_ X1 k_0 (v9+1))))∧((decide (v9<(s1_.length:Int)))=false→X1)
def zi (s1_:(List SItem)) (s2_:(List SItem)) (cmp_:(SItem × SItem × Int→Prop)) (r_:Int):Prop:=∃k10,zi.l1 s1_ s2_ cmp_ r_ (zi.j1 s1_ s2_ r_) k10 0
def zcx.j1 (r_:Int):Prop:=r_=0
def zcx.l1 (vals_:(List Int)) (r_:Int) (X1:Prop):Nat→Int→Prop
 | 0,_=>False
 | k_0+1,v7=>((decide (v7<(vals_.length:Int)))=true→∃e15:Int,at? vals_ v7=some e15∧(((e15 != 0))=true→r_=e15)∧(((e15 != 0))=false→(InR .i64 (v7+1))∧zcx.l1 vals_ r_ X1 k_0 (v7+1)))∧((decide (v7<(vals_.length:Int)))=false→X1)
def zcx (vals_:(List Int)) (r_:Int):Prop:=∃k8,zcx.l1 vals_ r_ (zcx.j1 r_) k8 0
def zb9 (s_:(List SItem)) (r_:(List SItem)):Prop:=∀b4:Bool,(b4=true→s_=[])→((b4)=true→r_=([]:(List SItem)))∧((b4)=false→(([]:(List SItem)).length+s_.length≤2147483648)∧r_=([]:(List SItem))++s_)
def zq.j1 (r_:Int):Prop:=r_=(-1)
def zq.l1 (s_:(List (List SItem))) (f_:((List SItem) × Bool→Prop)) (r_:Int) (X1:Prop):Nat→Int→Prop
 | 0,_=>False
 | k_0+1,v6=>((decide (v6<(s_.length:Int)))=true→∃e15:(List SItem),at? s_ v6=some e15∧∃r17:Bool,f_ (e15,r17)∧((r17)=true→r_=v6)∧((r17)=false→(InR .i64 (v6+1))∧zq.l1 s_ f_ r_ X1 k_0 (v6+1)))∧((decide (v6<(s_.length:Int)))=false→X1)
def zq (s_:(List (List SItem))) (f_:((List SItem) × Bool→Prop)) (r_:Int):Prop:=∃k7,zq.l1 s_ f_ r_ (zq.j1 r_) k7 0
def zbs (s_:(List (List SItem))) (f_:((List SItem) × Bool→Prop)) (r_:Bool):Prop:=∃r3:Int,zq s_ f_ r3∧r_=decide (0≤r3)
def zg.j1 (r_:(List Cl)) (data3:(List Cl)):Prop:=r_=data3
def zg.j2 (L1_:(List Cl)→Int→Prop) (i6:Int) (data14:(List Cl)):Prop:=(InR .i64 (i6+1))∧L1_ data14 (i6+1)
def zg.l2 (a_:Int) (cmp_:(Cl × Cl × Int→Prop)) (X2:(List Cl)→Prop):Nat→(List Cl)→Int→Prop
 | 0,_,_=>False
 | k_0+1,data17,j18=>∃e24:Cl,(((decide (a_<j18))=true)→at? data17 j18=some e24)∧(((decide (a_<j18))=true)→InR .i64 (j18-1))∧∃e27:Cl,(((decide (a_<j18))=true)→at? data17 (j18-1)=some e27)∧∃r29:Int,(((decide (a_<j18))=true)→cmp_ (e24,e27,r29))∧((((decide (a_<j18))&&(decide (r29<0))))=true→(InR .i64 (j18-1))∧(InR .i64 (j18-1))∧∃e34:Cl,at? data17 (j18-1)=some e34∧∃e36:Cl,at? data17 j18=some e36∧∃e38:Cl,at? data17 j18=some e38∧∃e40:Cl,at? (data17.set (j18:Int).toNat e34) (j18-1)=some e40∧(InR .i64 (j18-1))∧zg.l2 a_ cmp_ X2 k_0 ((data17.set (j18:Int).toNat e34).set (j18-1:Int).toNat e36) (j18-1))∧((((decide (a_<j18))&&(decide (r29<0))))=false→X2 data17)
def zg.l1 (a_:Int) (b_:Int) (cmp_:(Cl × Cl × Int→Prop)) (X1:(List Cl)→Prop):Nat→(List Cl)→Int→Prop
 | 0,_,_=>False
 | k_0+1,data5,i6=>((decide (i6<b_))=true→∃k19,zg.l2 a_ cmp_ (zg.j2 (zg.l1 a_ b_ cmp_ X1 k_0) i6) k19 data5 i6)∧((decide (i6<b_))=false→X1 data5)
def zg (data_:(List Cl)) (a_:Int) (b_:Int) (cmp_:(Cl × Cl × Int→Prop)) (r_:(List Cl)):Prop:=(InR .i64 (a_+1))∧∃k7,zg.l1 a_ b_ cmp_ (zg.j1 r_) k7 data_ (a_+1)
def zn.j1 (r_:(List Cl)) (data2:(List Cl)):Prop:=r_=data2
def zn.l1 (a_:Int) (b_:Int) (nv_:Int) (X1:(List Cl)→Prop):Nat→(List Cl)→Int→Prop
 | 0,_,_=>False
 | k_0+1,data4,i5=>((decide (i5<nv_))=true→(InR .i64 (a_+i5))∧(InR .i64 (b_+i5))∧(InR .i64 (b_+i5))∧∃e15:Cl,at? data4 (b_+i5)=some e15∧(InR .i64 (a_+i5))∧∃e18:Cl,at? data4 (a_+i5)=some e18∧∃e20:Cl,at? data4 (a_+i5)=some e20∧∃e22:Cl,at? (data4.set (a_+i5:Int).toNat e15) (b_+i5)=some e22∧(InR .i64 (i5+1))∧zn.l1 a_ b_ nv_ X1 k_0 ((data4.set (a_+i5:Int).toNat e15).set (b_+i5:Int).toNat e18) (i5+1))∧((decide (i5<nv_))=false→X1 data4)
def zn (data_:(List Cl)) (a_:Int) (b_:Int) (nv_:Int) (cmp_:(Cl × Cl × Int→Prop)) (r_:(List Cl)):Prop:=∃k6,zn.l1 a_ b_ nv_ (zn.j1 r_) k6 data_ 0
def zw.j1 (m_:Int) (cmp_:(Cl × Cl × Int→Prop)) (r_:(List Cl)) (data6:(List Cl)) (i7:Int):Prop:=(InR .i64 (m_-i7))∧∃r10:(List Cl),zn data6 (m_-i7) m_ i7 cmp_ r10∧r_=r10
def zw.l1 (m_:Int) (cmp_:(Cl × Cl × Int→Prop)) (X1:(List Cl)→Int→Prop):Nat→(List Cl)→Int→Int→Prop
 | 0,_,_,_=>False
 | k_0+1,data12,i13,j14=>(((i13 != j14))=true→((decide (j14<i13))=true→(InR .i64 (m_-i13))∧∃r23:(List Cl),zn data12 (m_-i13) m_ j14 cmp_ r23∧(InR .i64 (i13-j14))∧zw.l1 m_ cmp_ X1 k_0 r23 (i13-j14) j14)∧((decide (j14<i13))=false→(InR .i64 (m_-i13))∧(InR .i64 (m_+j14))∧(InR .i64 ((m_+j14)-i13))∧∃r30:(List Cl),zn data12 (m_-i13) ((m_+j14)-i13) i13 cmp_ r30∧(InR .i64 (j14-i13))∧zw.l1 m_ cmp_ X1 k_0 r30 i13 (j14-i13)))∧(((i13 != j14))=false→X1 data12 i13)
def zw (data_:(List Cl)) (a_:Int) (m_:Int) (b_:Int) (cmp_:(Cl × Cl × Int→Prop)) (r_:(List Cl)):Prop:=(InR .i64 (m_-a_))∧(InR .i64 (b_-m_))∧∃k15,zw.l1 m_ cmp_ (zw.j1 m_ cmp_ r_) k15 data_ (m_-a_) (b_-m_)
def za.j1 (r_:(List Cl)) (data11:(List Cl)):Prop:=r_=data11
def za.l1 (i7:Int) (X1:(List Cl)→Prop):Nat→(List Cl)→Int→Prop
 | 0,_,_=>False
 | k_0+1,data13,k14=>(InR .i64 (i7-1))∧((decide (k14<i7-1))=true→(InR .i64 (k14+1))∧(InR .i64 (k14+1))∧∃e24:Cl,at? data13 (k14+1)=some e24∧∃e26:Cl,at? data13 k14=some e26∧∃e28:Cl,at? data13 k14=some e28∧∃e30:Cl,at? (data13.set (k14:Int).toNat e24) (k14+1)=some e30∧(InR .i64 (k14+1))∧za.l1 i7 X1 k_0 ((data13.set (k14:Int).toNat e24).set (k14+1:Int).toNat e26) (k14+1))∧((decide (k14<i7-1))=false→X1 data13)
def za.j2 (data_:(List Cl)) (a_:Int) (r_:(List Cl)) (i7:Int):Prop:=∃k15,za.l1 i7 (za.j1 r_) k15 data_ a_
def za.l2 (data_:(List Cl)) (a_:Int) (cmp_:(Cl × Cl × Int→Prop)) (X2:Int→Prop):Nat→Int→Int→Prop
 | 0,_,_=>False
 | k_0+1,i33,j34=>((decide (i33<j34))=true→(InR .i64 (i33+j34))∧∃i42:Int,i42=(IntKind.wrap .i64 (shrI (IntKind.wrap .u64 (i33+j34)) 1))∧∃e45:Cl,at? data_ i42=some e45∧∃e47:Cl,at? data_ a_=some e47∧∃r49:Int,cmp_ (e45,e47,r49)∧((decide (r49<0))=true→(InR .i64 (i42+1))∧za.l2 data_ a_ cmp_ X2 k_0 (i42+1) j34)∧((decide (r49<0))=false→za.l2 data_ a_ cmp_ X2 k_0 i33 i42))∧((decide (i33<j34))=false→X2 i33)
def za.j3 (r_:(List Cl)) (data62:(List Cl)):Prop:=r_=data62
def za.l3 (i58:Int) (X3:(List Cl)→Prop):Nat→(List Cl)→Int→Prop
 | 0,_,_=>False
 | k_0+1,data64,k65=>((decide (i58<k65))=true→(InR .i64 (k65-1))∧(InR .i64 (k65-1))∧∃e74:Cl,at? data64 (k65-1)=some e74∧∃e76:Cl,at? data64 k65=some e76∧∃e78:Cl,at? data64 k65=some e78∧∃e80:Cl,at? (data64.set (k65:Int).toNat e74) (k65-1)=some e80∧(InR .i64 (k65-1))∧za.l3 i58 X3 k_0 ((data64.set (k65:Int).toNat e74).set (k65-1:Int).toNat e76) (k65-1))∧((decide (i58<k65))=false→X3 data64)
def za.j4 (data_:(List Cl)) (m_:Int) (r_:(List Cl)) (i58:Int):Prop:=∃k66,za.l3 i58 (za.j3 r_) k66 data_ m_
def za.l4 (data_:(List Cl)) (m_:Int) (cmp_:(Cl × Cl × Int→Prop)) (X4:Int→Prop):Nat→Int→Int→Prop
 | 0,_,_=>False
 | k_0+1,i83,j84=>((decide (i83<j84))=true→(InR .i64 (i83+j84))∧∃i92:Int,i92=(IntKind.wrap .i64 (shrI (IntKind.wrap .u64 (i83+j84)) 1))∧∃e95:Cl,at? data_ m_=some e95∧∃e97:Cl,at? data_ i92=some e97∧∃r99:Int,cmp_ (e95,e97,r99)∧(((!(decide (r99<0))))=true→(InR .i64 (i92+1))∧za.l4 data_ m_ cmp_ X4 k_0 (i92+1) j84)∧(((!(decide (r99<0))))=false→za.l4 data_ m_ cmp_ X4 k_0 i83 i92))∧((decide (i83<j84))=false→X4 i83)
def za.j5 (n_:(List Cl)→Int→Int→Int→(Cl × Cl × Int→Prop)→(List Cl)→Prop) (m_:Int) (b_:Int) (cmp_:(Cl × Cl × Int→Prop)) (r_:(List Cl)) (i104:Int) (start117:Int) (data131:(List Cl)):Prop:=∃b134:Bool,b134=((decide (i104<(i104+m_)-start117))&&(decide ((i104+m_)-start117<b_)))∧((b134)=true→∃r136:(List Cl),n_ data131 i104 ((i104+m_)-start117) b_ cmp_ r136∧r_=r136)∧((b134)=false→r_=data131)
def za.j6 (n_:(List Cl)→Int→Int→Int→(Cl × Cl × Int→Prop)→(List Cl)→Prop) (a_:Int) (m_:Int) (b_:Int) (cmp_:(Cl × Cl × Int→Prop)) (r_:(List Cl)) (i104:Int) (start117:Int) (data125:(List Cl)):Prop:=∃b129:Bool,b129=((decide (a_<start117))&&(decide (start117<i104)))∧((b129)=true→∃r138:(List Cl),n_ data125 a_ start117 i104 cmp_ r138∧(za.j5 (n_) m_ b_ cmp_ r_ i104 start117) r138)∧((b129)=false→(za.j5 (n_) m_ b_ cmp_ r_ i104 start117) data125)
def za.j7 (n_:(List Cl)→Int→Int→Int→(Cl × Cl × Int→Prop)→(List Cl)→Prop) (data_:(List Cl)) (a_:Int) (m_:Int) (b_:Int) (cmp_:(Cl × Cl × Int→Prop)) (r_:(List Cl)) (i104:Int) (start117:Int):Prop:=(InR .i64 ((i104+m_)-start117))∧∃b123:Bool,b123=((decide (start117<m_))&&(decide (m_<(i104+m_)-start117)))∧((b123)=true→∃r140:(List Cl),zw data_ start117 m_ ((i104+m_)-start117) cmp_ r140∧(za.j6 (n_) a_ m_ b_ cmp_ r_ i104 start117) r140)∧((b123)=false→(za.j6 (n_) a_ m_ b_ cmp_ r_ i104 start117) data_)
def za.l5 (data_:(List Cl)) (m_:Int) (cmp_:(Cl × Cl × Int→Prop)) (i104:Int) (X5:Int→Prop):Nat→Int→Int→Prop
 | 0,_,_=>False
 | k_0+1,start142,r143=>((decide (start142<r143))=true→(InR .i64 (start142+r143))∧∃i151:Int,i151=(IntKind.wrap .i64 (shrI (IntKind.wrap .u64 (start142+r143)) 1))∧(InR .i64 (((i104+m_)-1)-i151))∧∃e155:Cl,at? data_ (((i104+m_)-1)-i151)=some e155∧∃e157:Cl,at? data_ i151=some e157∧∃r159:Int,cmp_ (e155,e157,r159)∧(((!(decide (r159<0))))=true→(InR .i64 (i151+1))∧za.l5 data_ m_ cmp_ i104 X5 k_0 (i151+1) r143)∧(((!(decide (r159<0))))=false→za.l5 data_ m_ cmp_ i104 X5 k_0 start142 i151))∧((decide (start142<r143))=false→X5 start142)
def za.j8 (n_:(List Cl)→Int→Int→Int→(Cl × Cl × Int→Prop)→(List Cl)→Prop) (data_:(List Cl)) (a_:Int) (m_:Int) (b_:Int) (cmp_:(Cl × Cl × Int→Prop)) (r_:(List Cl)) (i104:Int) (start111:Int) (r112:Int):Prop:=(InR .i64 ((i104+m_)-1))∧∃k144,za.l5 data_ m_ cmp_ i104 (za.j7 (n_) data_ a_ m_ b_ cmp_ r_ i104) k144 start111 r112
def za.n:Nat→(List Cl)→Int→Int→Int→(Cl × Cl × Int→Prop)→(List Cl)→Prop
 | 0,_,_,_,_,_,_=>False
 | k_+1,data_,a_,m_,b_,cmp_,r_=>(InR .i64 (m_-a_))∧((((m_-a_)==1))=true→∃k35,za.l2 data_ a_ cmp_ (za.j2 data_ a_ r_) k35 m_ b_)∧((((m_-a_)==1))=false→(InR .i64 (b_-m_))∧((((b_-m_)==1))=true→∃k85,za.l4 data_ m_ cmp_ (za.j4 data_ m_ r_) k85 a_ m_)∧((((b_-m_)==1))=false→(InR .i64 (a_+b_))∧∃i104:Int,i104=(IntKind.wrap .i64 (shrI (IntKind.wrap .u64 (a_+b_)) 1))∧(InR .i64 (i104+m_))∧((decide (i104<m_))=true→(InR .i64 ((i104+m_)-b_))∧(za.j8 (za.n k_) data_ a_ m_ b_ cmp_ r_ i104) ((i104+m_)-b_) i104)∧((decide (i104<m_))=false→(za.j8 (za.n k_) data_ a_ m_ b_ cmp_ r_ i104) a_ m_)))
def za (data_:(List Cl)) (a_:Int) (m_:Int) (b_:Int) (cmp_:(Cl × Cl × Int→Prop)) (r_:(List Cl)):Prop:=∃k_,za.n k_ data_ a_ m_ b_ cmp_ r_
def zf.j1 (r_:(List Cl)) (data10:(List Cl)):Prop:=r_=data10
def zf.j2 (L1_:(List Cl)→Int→Prop) (nv_:Int) (cmp_:(Cl × Cl × Int→Prop)) (blockSize13:Int) (data22:(List Cl)) (a23:Int):Prop:=(InR .i64 (a23+blockSize13))∧((decide (a23+blockSize13<nv_))=true→∃r29:(List Cl),za data22 a23 (a23+blockSize13) nv_ cmp_ r29∧(InR .i64 (blockSize13*2))∧L1_ r29 (blockSize13*2))∧((decide (a23+blockSize13<nv_))=false→(InR .i64 (blockSize13*2))∧L1_ data22 (blockSize13*2))
def zf.l2 (nv_:Int) (cmp_:(Cl × Cl × Int→Prop)) (blockSize13:Int) (X2:(List Cl)→Int→Prop):Nat→(List Cl)→Int→Int→Prop
 | 0,_,_,_=>False
 | k_0+1,data33,a34,b35=>((decide (b35≤nv_))=true→(InR .i64 (a34+blockSize13))∧∃r43:(List Cl),za data33 a34 (a34+blockSize13) b35 cmp_ r43∧(InR .i64 (2*blockSize13))∧(InR .i64 (b35+(2*blockSize13)))∧zf.l2 nv_ cmp_ blockSize13 X2 k_0 r43 b35 (b35+(2*blockSize13)))∧((decide (b35≤nv_))=false→X2 data33 a34)
def zf.l1 (nv_:Int) (cmp_:(Cl × Cl × Int→Prop)) (X1:(List Cl)→Prop):Nat→(List Cl)→Int→Prop
 | 0,_,_=>False
 | k_0+1,data12,blockSize13=>((decide (blockSize13<nv_))=true→(InR .i64 (2*blockSize13))∧∃k36,zf.l2 nv_ cmp_ blockSize13 (zf.j2 (zf.l1 nv_ cmp_ X1 k_0) nv_ cmp_ blockSize13) k36 data12 0 (2*blockSize13))∧((decide (blockSize13<nv_))=false→X1 data12)
def zf.j3 (nv_:Int) (cmp_:(Cl × Cl × Int→Prop)) (r_:(List Cl)) (data4:(List Cl)) (a5:Int):Prop:=∃r8:(List Cl),zg data4 a5 nv_ cmp_ r8∧∃k14,zf.l1 nv_ cmp_ (zf.j1 r_) k14 r8 20
def zf.l3 (nv_:Int) (cmp_:(Cl × Cl × Int→Prop)) (X3:(List Cl)→Int→Prop):Nat→(List Cl)→Int→Int→Prop
 | 0,_,_,_=>False
 | k_0+1,data48,a49,b50=>((decide (b50≤nv_))=true→∃r57:(List Cl),zg data48 a49 b50 cmp_ r57∧(InR .i64 (b50+20))∧zf.l3 nv_ cmp_ X3 k_0 r57 b50 (b50+20))∧((decide (b50≤nv_))=false→X3 data48 a49)
def zf (data_:(List Cl)) (nv_:Int) (cmp_:(Cl × Cl × Int→Prop)) (r_:(List Cl)):Prop:=∃k51,zf.l3 nv_ cmp_ (zf.j3 nv_ cmp_ r_) k51 data_ 0 20
def zbn (x_:(List Cl)) (cmp_:(Cl × Cl × Int→Prop)) (r_:(List Cl)):Prop:=∃r1:(List Cl),zf x_ (x_.length:Int) cmp_ r1∧r_=r1
def z7.j1 (r_:(List Int)) (s3:(List Int)):Prop:=r_=s3
def z7.l1 (X1:(List Int)→Prop):Nat→(List Int)→Int→Int→Prop
 | 0,_,_,_=>False
 | k_0+1,s5,i6,j7=>((decide (i6<j7))=true→∃e14:Int,at? s5 j7=some e14∧∃e16:Int,at? s5 i6=some e16∧∃e18:Int,at? s5 i6=some e18∧∃e20:Int,at? (s5.set (i6:Int).toNat e14) j7=some e20∧(InR .i64 (i6+1))∧(InR .i64 (j7-1))∧z7.l1 X1 k_0 ((s5.set (i6:Int).toNat e14).set (j7:Int).toNat e16) (i6+1) (j7-1))∧((decide (i6<j7))=false→X1 s5)
def z7 (s_:(List Int)) (r_:(List Int)):Prop:=(InR .i64 ((s_.length:Int)-1))∧∃k8,z7.l1 (z7.j1 r_) k8 s_ 0 ((s_.length:Int)-1)
set_option maxRecDepth 100000
theorem zdl {slices_:(List (List SItem))} {r_:(List SItem)} (h:zk slices_ r_):Fn Tryz.prog 119 [(Pd.rep (En.slice (En.slice En.SItem)) slices_)] (Ro En.SItem 77 r_):=by
 unfold zk at h;refine zbx Tryz.func119 J Tryz.ntmps119 (by rfl) (by simp) fun s0 a L=>?_;refine wp_seq_k fun K1 H1=>rg (sw 2 (zb (zdg (E:=En.SItem) (N:=s0.w.heap.size) (te:=77)) J J) L fun a s L=>?_);refine en' (H1 _ _ ?_);refine wp_seq_k fun K2 H2=>rg (sw 3 (zb oI J J) L fun a s L=>?_);refine en' (H2 _ _ ?_);refine wp_seq_k fun K3 H3=>wp_seq_k fun K4 H4=>rg (sw 9 (zd (O 0 J) J J) L fun a s L=>?_);refine sw 10 (zc8 (O 9 J) U25 J J) L fun a s L=>sw 11 (zd oI J J) L fun a s L=>en' (H4 _ _ ?_);refine wp_block ?_;have J6:∀(size5:Int) (a:Act) (s:St),Has N0 36 s0 a s [(0,(Pd.rep (En.slice (En.slice En.SItem)) slices_)),(3,(Pi size5))]→((zk.j2 slices_ r_) size5)→K3 a s.w:=by
  intro size5 a s L h;unfold zk.j2 at h;show K3 a s.w;refine H3 _ _ (wp_seq_k fun K7 H7=>?_);obtain ⟨r8,h9,h⟩:=h;refine rg (sw 23 (zd (O 3 J) J J) L fun a s L=>?_);refine zfx 24 L (zfe h9) (xs:=[.const (.slice none 0 0),.tmp 23]) (.cons o_nilv (.cons (O 23 J) .nil)) J J J J fun a s og10 hg_ L=>?_;refine sw 6 (zb (O 24 J) J J) L fun a s L=>en' (H7 _ _ ?_);refine wp_seq_k fun K11 H11=>wp_seq_k fun K12 H12=>rg (sw 25 (zd (O 0 J) J J) L fun a s L=>?_);refine sw 26 (zc8 (O 25 J) U25 J J) L fun a s L=>sw 27 (zd oI J J) L fun a s L=>en' (H12 _ _ ?_);refine wp_block ?_;have J15:∀(newslice13:(List SItem)) (og14:Option Nat) (a:Act) (s:St),Has N0 36 s0 a s [(6,(Pd.row En.SItem s0.w.heap.size 77 og14 newslice13))]→((zk.j1 r_) newslice13)→K11 a s.w:=by
   intro newslice13 og14 a s L h;unfold zk.j1 at h;show K11 a s.w;refine H11 _ _ (wp_seq_k fun K16 H16=>?_);refine rg (sw 35 (zd (O 6 J) J J) L fun a s L=>?_);refine sw 2 (zb (O 35 J) J J) L fun a s L=>en' (H16 _ _ ?_);subst h;exact wp_ret (zjn J L J)
  obtain ⟨k20,h⟩:=h;refine lpg (fun k21 a s=>∃(newslice17:(List SItem)) (v19:Int) (og18:Option Nat),Has N0 36 s0 a s [(6,(Pd.row En.SItem s0.w.heap.size 77 og18 newslice17)),(25,(Pd.rep (En.slice (En.slice En.SItem)) slices_)),(26,(Pi (slices_.length:Int))),(27,(Pi v19))]∧zk.l1 slices_ (zk.j1 r_) k21 newslice17 v19) k20 ⟨r8,0,og10,L.keep (.cons (t:=6) J (fun _ _ h_=>h_) (.k 25 (.k 26 (.k 27 .nil)))),h⟩ ?_;rintro k21 a s ⟨newslice17,v19,og18,L,h⟩ KL22 hKL22;cases k21 with
  | zero=>exact h.elim
  | succ k21=>
  unfold zk.l1 at h;refine wp_seq_k fun K23 H23=>rg (sw 28 (zbz (O 27 J) (O 26 J) J J) L fun a s L=>?_);refine en' (H23 _ _ ?_);refine wp_seq_k fun K24 H24=>cnd L J (fun hb_=>?_) (fun hb_=>?_)
  ·replace h:=h.1 hb_;refine wp_skip ?_;show K24 a s.w;refine H24 _ _ (wp_seq_k fun K25 H25=>?_);refine wp_block (wp_seq_k fun K26 H26=>?_);obtain ⟨e27,h28,h⟩:=h;refine rg (sw 29 (zde (O 25 J) (O 27 J) h28 U25 zfv J J) L fun a s L=>?_);refine sw 30 (zt zfv (O 29 J) J J) L fun a s L=>sw 8 (zb (O 30 J) J J) L fun a s L=>en' (H26 _ _ ?_);obtain ⟨h29,h⟩:=h;refine rg (sw 31 (zd (O 6 J) J J) L fun a s L=>?_);refine sw 32 (zd (O 8 J) J J) L fun a s L=>zev (L':=[(25,(Pd.rep (En.slice (En.slice En.SItem)) slices_)),(26,(Pi (slices_.length:Int))),(27,(Pi v19))]) 33 L (O 31 J) (O 32 J) U47 zfk h29 J J J J (.k 25 (.k 26 (.k 27 .nil))) fun a s og30 hg_ L=>?_;refine sw 6 (zb (O 33 J) J J) L fun a s L=>en' (H25 _ _ ?_);obtain ⟨h31,h⟩:=h;refine rg (sw 34 (zbk (O 27 J) oI h31 J J) L fun a s L=>?_);refine sw 27 (zd (O 34 J) J J) L fun a s L=>en' ?_;exact hKL22 k21 a s (Nat.lt_succ_self _) ⟨(newslice17++e27),(v19+1),og30,L.keep (.cons (t:=6) J (fun _ _ h_=>h_) (.k 25 (.k 26 (.k 27 .nil)))),h⟩
  ·replace h:=h.2 hb_;refine wp_exit ?_;exact J15 newslice17 og18 a s (L.keep (.cons (t:=6) J (fun _ _ h_=>h_) .nil)) h
 obtain ⟨k34,h⟩:=h;refine lpg (fun k35 a s=>∃(size32:Int) (v33:Int),Has N0 36 s0 a s [(0,(Pd.rep (En.slice (En.slice En.SItem)) slices_)),(3,(Pi size32)),(9,(Pd.rep (En.slice (En.slice En.SItem)) slices_)),(10,(Pi (slices_.length:Int))),(11,(Pi v33))]∧zk.l2 slices_ (zk.j2 slices_ r_) k35 size32 v33) k34 ⟨0,0,L.keep (.k 0 (.k 3 (.k 9 (.k 10 (.k 11 .nil))))),h⟩ ?_;rintro k35 a s ⟨size32,v33,L,h⟩ KL36 hKL36;cases k35 with
 | zero=>exact h.elim
 | succ k35=>
 unfold zk.l2 at h;refine wp_seq_k fun K37 H37=>rg (sw 12 (zbz (O 11 J) (O 10 J) J J) L fun a s L=>?_);refine en' (H37 _ _ ?_);refine wp_seq_k fun K38 H38=>cnd L J (fun hb_=>?_) (fun hb_=>?_)
 ·replace h:=h.1 hb_;refine wp_skip ?_;show K38 a s.w;refine H38 _ _ (wp_seq_k fun K39 H39=>?_);refine wp_block (wp_seq_k fun K40 H40=>?_);obtain ⟨e41,h42,h⟩:=h;refine rg (sw 13 (zde (O 9 J) (O 11 J) h42 U25 zfv J J) L fun a s L=>?_);refine sw 14 (zt zfv (O 13 J) J J) L fun a s L=>sw 5 (zb (O 14 J) J J) L fun a s L=>en' (H40 _ _ ?_);refine wp_seq_k fun K43 H43=>?_;obtain ⟨h44,h⟩:=h;refine rg (sw 15 (zd (O 3 J) J J) L fun a s L=>?_);refine sw 16 (zd (O 5 J) J J) L fun a s L=>sw 17 (zc8 (O 16 J) U47 J J) L fun a s L=>sw 18 (zbk (O 15 J) (O 17 J) h44 J J) L fun a s L=>sw 3 (zb (O 18 J) J J) L fun a s L=>en' (H43 _ _ ?_);refine wp_seq_k fun K45 H45=>rg (sw 19 (zd (O 3 J) J J) L fun a s L=>?_);refine sw 20 (zbz (O 19 J) oI J J) L fun a s L=>en' (H45 _ _ ?_);refine cnd L J (fun hb_=>?_) (fun hb_=>?_)
  ·replace h:=h.1 hb_;exact h.elim
  ·replace h:=h.2 hb_;refine wp_skip ?_;show K39 a s.w;refine H39 _ _ ?_;obtain ⟨h46,h⟩:=h;refine rg (sw 22 (zbk (O 11 J) oI h46 J J) L fun a s L=>?_);refine sw 11 (zd (O 22 J) J J) L fun a s L=>en' ?_;exact hKL36 k35 a s (Nat.lt_succ_self _) ⟨(size32+(e41.length:Int)),(v33+1),L.keep (.k 0 (.k 3 (.k 9 (.k 10 (.k 11 .nil))))),h⟩
 ·replace h:=h.2 hb_;refine wp_exit ?_;exact J6 size32 a s (L.keep (.k 0 (.k 3 .nil))) h
theorem zdo {s_:(List SItem)} {r_:(List SItem)} (h:zb9 s_ r_):Fn Tryz.prog 143 [(Pd.rep (En.slice En.SItem) s_)] (Ro En.SItem 77 r_):=by
 unfold zb9 at h;refine zbx Tryz.func143 J Tryz.ntmps143 (by rfl) (by simp) fun s0 a L=>?_;refine wp_seq_k fun K1 H1=>rg (sw 2 (zb (zdg (E:=En.SItem) (N:=s0.w.heap.size) (te:=77)) J J) L fun a s L=>?_);refine en' (H1 _ _ ?_);refine wp_seq_k fun K2 H2=>wp_seq_k fun K3 H3=>rg (sw 3 (zd (O 0 J) J J) L fun a s L=>?_);refine sw 4 (t_isnil (O 3 J) U47 J J) L fun a s L=>?_;obtain ⟨b4,h5,L⟩:=L.nilq 4 rfl;replace h:=h b4 h5;refine en' (H3 _ _ ?_);refine cnd L J (fun hb_=>?_) (fun hb_=>?_)
 ·replace h:=h.1 hb_;refine wp_seq_k fun K6 H6=>rg (sw 2 (zb (zdg (E:=En.SItem) (N:=s0.w.heap.size) (te:=77)) J J) L fun a s L=>?_);refine en' (H6 _ _ ?_);subst h;exact wp_ret (zjn J L J)
 ·replace h:=h.2 hb_;refine wp_skip ?_;show K2 a s.w;refine H2 _ _ (wp_seq_k fun K7 H7=>?_);obtain ⟨h9,h⟩:=h;refine rg (st_new En.SItem 5 L U47 zfk J J J J fun a s g8 hg_ L=>?_);refine sw 6 (zd (O 0 J) J J) L fun a s L=>zev (L':=[(2,(Pd.row En.SItem s0.w.heap.size 77 none ([]:(List SItem))))]) 7 L (O 5 J) (O 6 J) U47 zfk h9 J J J J (.cons (t:=2) J no_own .nil) fun a s og10 hg_ L=>?_;refine sw 2 (zb (O 7 J) J J) L fun a s L=>en' (H7 _ _ ?_);subst h;exact wp_ret (zjn J L J)
theorem zee {s_:(List (List SItem))} {f_:((List SItem) × Bool→Prop)} {r_:Int} (h:zq s_ f_ r_):Fn Tryz.prog 102 [(Pd.rep (En.slice (En.slice En.SItem)) s_),(Pd.rep EnF88 f_)] (Rq (Pi r_)):=by
 unfold zq at h;refine zbx Tryz.func102 J Tryz.ntmps102 (by rfl) (by simp) fun s0 a L=>?_;refine wp_seq_k fun K1 H1=>rg (sw 4 (zb oI J J) L fun a s L=>?_);refine en' (H1 _ _ ?_);refine wp_seq_k fun K2 H2=>wp_seq_k fun K3 H3=>rg (sw 6 (zd (O 0 J) J J) L fun a s L=>?_);refine sw 7 (zc8 (O 6 J) U25 J J) L fun a s L=>sw 8 (zd oI J J) L fun a s L=>en' (H3 _ _ ?_);refine wp_block ?_;have J4:∀(a:Act) (s:St),Has N0 19 s0 a s []→((zq.j1 r_))→K2 a s.w:=by
  intro a s L h;unfold zq.j1 at h;show K2 a s.w;refine H2 _ _ (wp_seq_k fun K5 H5=>?_);refine rg (sw 4 (zb oI J J) L fun a s L=>?_);refine en' (H5 _ _ ?_);subst h;exact wp_ret (zdu J L J)
 obtain ⟨k7,h⟩:=h;refine lpg (fun k8 a s=>∃(v6:Int),Has N0 19 s0 a s [(0,(Pd.rep (En.slice (En.slice En.SItem)) s_)),(1,(Pd.rep EnF88 f_)),(7,(Pi (s_.length:Int))),(8,(Pi v6))]∧zq.l1 s_ f_ r_ (zq.j1 r_) k8 v6) k7 ⟨0,L.keep (.k 0 (.k 1 (.k 7 (.k 8 .nil)))),h⟩ ?_;rintro k8 a s ⟨v6,L,h⟩ KL9 hKL9;cases k8 with
 | zero=>exact h.elim
 | succ k8=>
 unfold zq.l1 at h;refine wp_seq_k fun K10 H10=>rg (sw 9 (zbz (O 8 J) (O 7 J) J J) L fun a s L=>?_);refine en' (H10 _ _ ?_);refine wp_seq_k fun K11 H11=>cnd L J (fun hb_=>?_) (fun hb_=>?_)
 ·replace h:=h.1 hb_;refine wp_skip ?_;show K11 a s.w;refine H11 _ _ (wp_seq_k fun K12 H12=>?_);refine wp_block (wp_seq_k fun K13 H13=>?_);refine rg (sw 10 (zd (O 8 J) J J) L fun a s L=>?_);refine sw 5 (zb (O 10 J) J J) L fun a s L=>en' (H13 _ _ ?_);refine wp_seq_k fun K14 H14=>?_;obtain ⟨e15,h16,r17,h18,h⟩:=h;refine rg (sw 11 (zd (O 1 J) J J) L fun a s L=>?_);refine sw 12 (zd (O 0 J) J J) L fun a s L=>sw 13 (zd (O 5 J) J J) L fun a s L=>sw 14 (zde (O 12 J) (O 13 J) h16 U25 zfv J J) L fun a s L=>sw 15 (zt zfv (O 14 J) J J) L fun a s L=>sw 16 (zfo (q:=(e15,r17)) (O 11 J) h18 (xs:=[.tmp 15]) (.cons (O 15 J) .nil) (fun _ _ _ h_=>h_) J J) L fun a s L=>en' (H14 _ _ ?_);refine cnd L J (fun hb_=>?_) (fun hb_=>?_)
  ·replace h:=h.1 hb_;refine wp_seq_k fun K19 H19=>rg (sw 17 (zd (O 5 J) J J) L fun a s L=>?_);refine sw 4 (zb (O 17 J) J J) L fun a s L=>en' (H19 _ _ ?_);subst h;exact wp_ret (zdu J L J)
  ·replace h:=h.2 hb_;refine wp_skip ?_;show K12 a s.w;refine H12 _ _ ?_;obtain ⟨h20,h⟩:=h;refine rg (sw 18 (zbk (O 8 J) oI h20 J J) L fun a s L=>?_);refine sw 8 (zd (O 18 J) J J) L fun a s L=>en' ?_;exact hKL9 k8 a s (Nat.lt_succ_self _) ⟨(v6+1),L.keep (.k 0 (.k 1 (.k 7 (.k 8 .nil)))),h⟩
 ·replace h:=h.2 hb_;refine wp_exit ?_;exact J4 a s (L.keep .nil) h
theorem zd7 {s_:(List (List SItem))} {f_:((List SItem) × Bool→Prop)} {r_:Bool} (h:zbs s_ f_ r_):Fn Tryz.prog 61 [(Pd.rep (En.slice (En.slice En.SItem)) s_),(Pd.rep EnF88 f_)] (Rq (Pd.rep En.bool r_)):=by
 unfold zbs at h;refine zbx Tryz.func61 J Tryz.ntmps61 (by rfl) (by simp) fun s0 a L=>?_;refine wp_seq_k fun K1 H1=>rg (sw 4 (zb o_b J J) L fun a s L=>?_);refine en' (H1 _ _ ?_);refine wp_seq_k fun K2 H2=>?_;obtain ⟨r3,h4,h⟩:=h;refine rg (sw 5 (zd (O 0 J) J J) L fun a s L=>?_);refine sw 6 (zd (O 1 J) J J) L fun a s L=>sw 7 (zy (zee h4) (xs:=[.tmp 5,.tmp 6]) (.cons (O 5 J) (.cons (O 6 J) .nil)) J J) L fun a s L=>sw 8 (zj5 (O 7 J) oI J J) L fun a s L=>sw 4 (zb (O 8 J) J J) L fun a s L=>en' (H2 _ _ ?_);subst h;exact wp_ret (zdu J L J)
theorem zcz (v0:Value) {data_:(List Cl)} {a_:Int} {b_:Int} {cmp_:(Cl × Cl × Int→Prop)} {r_:(List Cl)} (h:zg data_ a_ b_ cmp_ r_):Fm Tryz.prog 185 (fun b=>v0.ownBlock=some b) [(Pd.prow En.cls 51 v0 data_),(Pi a_),(Pi b_),(Pd.rep EnF211 cmp_)] (fun _ s' _=>(Pd.prow En.cls 51 v0 r_).p s' v0):=by
 unfold zg at h;refine zom Tryz.func185 J Tryz.ntmps185 (by rfl) (by simp) fun s0 a L=>?_;refine wp_seq_k fun K1 H1=>?_;obtain ⟨h2,h⟩:=h;refine rg (sw 10 (zd (O 1 J) J J) L fun a s L=>?_);refine sw 11 (zbk (O 10 J) oI h2 J J) L fun a s L=>sw 8 (zb (O 11 J) J J) L fun a s L=>en' (H1 _ _ ?_);refine wp_block ?_;have J4:∀(data3:(List Cl)) (a:Act) (s:St),Has (fun b=>v0.ownBlock=some b) 53 s0 a s [(0,(Pd.prow En.cls 51 v0 data3))]→((zg.j1 r_) data3)→(bodyPost Tryz.prog Tryz.f185 (Pst (fun b=>v0.ownBlock=some b) (fun _ s' _=>(Pd.prow En.cls 51 v0 r_).p s' v0) s0) .normal) a s.w:=by
  intro data3 a s L h;unfold zg.j1 at h;subst h;exact retm J L (c:=0) J
 obtain ⟨k7,h⟩:=h;refine lpg (fun k8 a s=>∃(data5:(List Cl)) (i6:Int),Has (fun b=>v0.ownBlock=some b) 53 s0 a s [(0,(Pd.prow En.cls 51 v0 data5)),(1,(Pi a_)),(2,(Pi b_)),(3,(Pd.rep EnF211 cmp_)),(8,(Pi i6))]∧zg.l1 a_ b_ cmp_ (zg.j1 r_) k8 data5 i6) k7 ⟨data_,(a_+1),L.keep (.cons (t:=0) J (fun _ _ h_=>h_) (.k 1 (.k 2 (.k 3 (.k 8 .nil))))),h⟩ ?_;rintro k8 a s ⟨data5,i6,L,h⟩ KL9 hKL9;cases k8 with
 | zero=>exact h.elim
 | succ k8=>
 unfold zg.l1 at h;refine wp_seq_k fun K10 H10=>wp_seq_k fun K11 H11=>rg (sw 12 (zd (O 8 J) J J) L fun a s L=>?_);refine sw 13 (zd (O 2 J) J J) L fun a s L=>sw 14 (zbz (O 12 J) (O 13 J) J J) L fun a s L=>en' (H11 _ _ ?_);refine cnd L J (fun hb_=>?_) (fun hb_=>?_)
 ·replace h:=h.1 hb_;refine wp_skip ?_;show K10 a s.w;refine H10 _ _ (wp_seq_k fun K12 H12=>?_);refine wp_block (wp_seq_k fun K13 H13=>?_);refine rg (sw 17 (zd (O 8 J) J J) L fun a s L=>?_);refine sw 9 (zb (O 17 J) J J) L fun a s L=>en' (H13 _ _ ?_);refine wp_block ?_;have J15:∀(data14:(List Cl)) (a:Act) (s:St),Has (fun b=>v0.ownBlock=some b) 53 s0 a s [(0,(Pd.prow En.cls 51 v0 data14)),(1,(Pi a_)),(2,(Pi b_)),(3,(Pd.rep EnF211 cmp_)),(8,(Pi i6))]→((zg.j2 (zg.l1 a_ b_ cmp_ (zg.j1 r_) k8) i6) data14)→K12 a s.w:=by
   intro data14 a s L h;unfold zg.j2 at h;show K12 a s.w;refine H12 _ _ ?_;obtain ⟨h16,h⟩:=h;refine rg (sw 15 (zd (O 8 J) J J) L fun a s L=>?_);refine sw 16 (zbk (O 15 J) oI h16 J J) L fun a s L=>sw 8 (zb (O 16 J) J J) L fun a s L=>en' ?_;exact hKL9 k8 a s (Nat.lt_succ_self _) ⟨data14,(i6+1),L.keep (.cons (t:=0) J (fun _ _ h_=>h_) (.k 1 (.k 2 (.k 3 (.k 8 .nil))))),h⟩
  obtain ⟨k19,h⟩:=h;refine lpg (fun k20 a s=>∃(data17:(List Cl)) (j18:Int),Has (fun b=>v0.ownBlock=some b) 53 s0 a s [(0,(Pd.prow En.cls 51 v0 data17)),(1,(Pi a_)),(2,(Pi b_)),(3,(Pd.rep EnF211 cmp_)),(8,(Pi i6)),(9,(Pi j18))]∧zg.l2 a_ cmp_ (zg.j2 (zg.l1 a_ b_ cmp_ (zg.j1 r_) k8) i6) k20 data17 j18) k19 ⟨data5,i6,L.keep (.cons (t:=0) J (fun _ _ h_=>h_) (.k 1 (.k 2 (.k 3 (.k 8 (.k 9 .nil)))))),h⟩ ?_;rintro k20 a s ⟨data17,j18,L,h⟩ KL21 hKL21;cases k20 with
  | zero=>exact h.elim
  | succ k20=>
  unfold zg.l2 at h;refine wp_seq_k fun K22 H22=>wp_seq_k fun K23 H23=>?_;obtain ⟨e24,h25,h26,e27,h28,r29,h30,h⟩:=h;refine rda zcm 17 [(Pi j18),(Pi a_),(Pd.rep En.bool (decide (a_<j18))),(Pd.rep En.bool (decide (a_<j18))),(Pd.when ((decide (a_<j18))=true) (Pd.rep EnF211 cmp_)),(Pd.when ((decide (a_<j18))=true) (Pd.prow En.cls 51 v0 data17)),(Pd.when ((decide (a_<j18))=true) (Pi j18)),(Pd.when ((decide (a_<j18))=true) (Pd.optr En.cls 0 v0.ownBlock ((j18:Int).toNat*En.cls.sz) e24)),(Pd.when ((decide (a_<j18))=true) (Pd.rep En.cls e24)),(Pd.when ((decide (a_<j18))=true) (Pd.prow En.cls 51 v0 data17)),(Pd.when ((decide (a_<j18))=true) (Pi j18)),(Pd.when ((decide (a_<j18))=true) (Pi (j18-1))),(Pd.when ((decide (a_<j18))=true) (Pd.optr En.cls 0 v0.ownBlock ((j18-1:Int).toNat*En.cls.sz) e27)),(Pd.when ((decide (a_<j18))=true) (Pd.rep En.cls e27)),(Pd.when ((decide (a_<j18))=true) (Pi r29)),(Pd.when ((decide (a_<j18))=true) (Pd.rep En.bool (decide (r29<0)))),(Pd.rep En.bool ((decide (a_<j18))&&(decide (r29<0))))] L (by kernel_rfl) J J ?_ ?_
  ·refine z8.cons (zd (O 9 J) J J) ?_;refine z8.cons (zd (O 1 J) J J) (z8.cons (zhd (O 18 J) (O 19 J) J J) ?_);refine z8.cons (zd (O 20 J) J J) (z8.cons (zbg J J J (fun hc_=>zd (O 3 J) J J)) ?_);refine z8.cons (zbg J J J (fun hc_=>zd (O 0 J) J J)) (z8.cons (zbg J J J (fun hc_=>zd (O 9 J) J J)) ?_);refine z8.cons (zbg J J J (fun hc_=>zca (o_p (o_w hc_ 23 J)) (o_w hc_ 24 J) (h25 hc_) U36 zco J J)) (z8.cons (zbg J J J (fun hc_=>zp zco (o_w hc_ 25 J) J J)) ?_);refine z8.cons (zbg J J J (fun hc_=>zd (O 0 J) J J)) (z8.cons (zbg J J J (fun hc_=>zd (O 9 J) J J)) ?_);refine z8.cons (zbg J J J (fun hc_=>zdy (o_w hc_ 28 J) oI (h26 hc_) J J)) (z8.cons (zbg J J J (fun hc_=>zca (o_p (o_w hc_ 27 J)) (o_w hc_ 29 J) (h28 hc_) U36 zco J J)) ?_);refine z8.cons (zbg J J J (fun hc_=>zp zco (o_w hc_ 30 J) J J)) (z8.cons (zbg J J J (fun hc_=>zfo (q:=(e24,e27,r29)) (o_w hc_ 22 J) (h30 hc_) (xs:=[.tmp 26,.tmp 31]) (.cons (o_w hc_ 26 J) (.cons (o_w hc_ 31 J) .nil)) (fun _ _ _ h_=>h_) J J)) ?_);refine z8.cons (zbg J J J (fun hc_=>zbz (o_w hc_ 32 J) oI J J)) (z8.cons (zc1 (O 21 J) (fun hc2_=>(o_w hc2_ 33 J)) J J) ?_);exact z8.nil
  intro a s _ L;refine en' (H23 _ _ ?_);refine cnd L J (fun hb_=>?_) (fun hb_=>?_)
  ·replace h:=h.1 hb_;refine wp_skip ?_;show K22 a s.w;refine H22 _ _ (wp_seq_k fun K31 H31=>?_);refine wp_block ?_;obtain ⟨h32,h33,e34,h35,e36,h37,e38,h39,e40,h41,h⟩:=h;refine rdf 18 zcm L (by kernel_rfl) fun s _ L=>?_;refine zek 2 39 L (by rfl) (by kernel_rfl) (by kernel_rfl) (by kernel_rfl) (fun _ _ _ _ h=>h) (q:=(Pd.prow En.cls 51 v0 data17)) (zh4 (O 0 J) J J) J J fun a L=>?_;refine zek 3 40 L (by rfl) (by kernel_rfl) (by kernel_rfl) (by kernel_rfl) (fun _ _ _ _ h=>h) (q:=(Pi j18)) (zh4 (O 9 J) J J) J J fun a L=>?_;refine zek 4 41 L (by rfl) (by kernel_rfl) (by kernel_rfl) (by kernel_rfl) (fun _ _ _ _ h=>h) (q:=(Pi (j18-1))) (y_sub (O 40 J) oI h32 J J) J J fun a L=>?_;refine fl_go 15 [(Pd.prow En.cls 51 v0 data17),(Pi j18),(Pd.prow En.cls 51 v0 data17),(Pi j18),(Pi (j18-1)),(Pd.prow En.cls 51 v0 data17),(Pi j18),(Pi (j18-1)),(Pd.optr En.cls 0 v0.ownBlock ((j18-1:Int).toNat*En.cls.sz) e34),(Pd.rep En.cls e34),(Pd.prow En.cls 51 v0 data17),(Pi j18),(Pd.optr En.cls 0 v0.ownBlock ((j18:Int).toNat*En.cls.sz) e36),(Pd.rep En.cls e36),(Pd.optr En.cls 0 v0.ownBlock ((j18:Int).toNat*En.cls.sz) e38)] [2,3,4] L (by kernel_rfl) (by kernel_rfl) (by kernel_rfl) (.cons (i:=2) J J J J (.cons (i:=3) J J J J (.cons (i:=4) J J J J .nil))) J J ?_ ?_
   ·refine zdi.cons (zd (O 0 J) J J) ?_;refine zdi.cons (zd (O 9 J) J J) (zdi.skip J ?_);refine zdi.skip J (zdi.skip J ?_);refine zdi.cons (zd (O 0 J) J J) (zdi.cons (zd (O 9 J) J J) ?_);refine zdi.cons (zdy (O 43 J) oI h33 J J) (zdi.cons (zca (o_p (O 42 J)) (O 44 J) h35 U36 zco J J) ?_);refine zdi.cons (zp zco (O 45 J) J J) (zdi.cons (zd (O 0 J) J J) ?_);refine zdi.cons (zd (O 9 J) J J) (zdi.cons (zca (o_p (O 47 J)) (O 48 J) h37 U36 zco J J) ?_);refine zdi.cons (zp zco (O 49 J) J J) (zdi.cons (zca (o_p (O 37 J)) (O 38 J) h39 U36 zco J J) ?_);exact zdi.nil
   intro a s _ L;refine zfw (L':=[(0,(Pd.prow En.cls 51 v0 (data17.set (j18:Int).toNat e34))),(1,(Pi a_)),(2,(Pi b_)),(3,(Pd.rep EnF211 cmp_)),(8,(Pi i6)),(9,(Pi j18)),(39,(Pd.prow En.cls 51 v0 (data17.set (j18:Int).toNat e34))),(41,(Pi (j18-1))),(50,(Pd.rep En.cls e36))]) (off:=0) 0 (fun b h=>h) L J h39 (O 51 J) (O 46 J) (zz _ _ _) zco J J J (.turn (t:=0) J (.k 1 (.k 2 (.k 3 (.k 8 (.k 9 (.turn (t:=39) J (.k 41 (.k 50 .nil))))))))) fun s L=>?_;refine sw 52 (zca (o_p (O 39 J)) (O 41 J) h41 U36 zco J J) L fun a s L=>zfw (L':=[(0,(Pd.prow En.cls 51 v0 ((data17.set (j18:Int).toNat e34).set (j18-1:Int).toNat e36))),(1,(Pi a_)),(2,(Pi b_)),(3,(Pd.rep EnF211 cmp_)),(8,(Pi i6)),(9,(Pi j18))]) (off:=0) 0 (fun b h=>h) L J h41 (O 52 J) (O 50 J) (zz _ _ _) zco J J J (.turn (t:=0) J (.k 1 (.k 2 (.k 3 (.k 8 (.k 9 .nil)))))) fun s L=>?_;refine en' (H31 _ _ ?_);obtain ⟨h42,h⟩:=h;refine rg (sw 35 (zd (O 9 J) J J) L fun a s L=>?_);refine sw 36 (zdy (O 35 J) oI h42 J J) L fun a s L=>sw 9 (zb (O 36 J) J J) L fun a s L=>en' ?_;exact hKL21 k20 a s (Nat.lt_succ_self _) ⟨((data17.set (j18:Int).toNat e34).set (j18-1:Int).toNat e36),(j18-1),L.keep (.cons (t:=0) J (fun _ _ h_=>h_) (.k 1 (.k 2 (.k 3 (.k 8 (.k 9 .nil)))))),h⟩
  ·replace h:=h.2 hb_;refine wp_exit ?_;exact J15 data17 a s (L.keep (.cons (t:=0) J (fun _ _ h_=>h_) (.k 1 (.k 2 (.k 3 (.k 8 .nil)))))) h
 ·replace h:=h.2 hb_;refine wp_exit ?_;exact J4 data5 a s (L.keep (.cons (t:=0) J (fun _ _ h_=>h_) .nil)) h
theorem zce (v0:Value) {data_:(List Cl)} {a_:Int} {b_:Int} {nv_:Int} {cmp_:(Cl × Cl × Int→Prop)} {r_:(List Cl)} (h:zn data_ a_ b_ nv_ cmp_ r_):Fm Tryz.prog 190 (fun b=>v0.ownBlock=some b) [(Pd.prow En.cls 51 v0 data_),(Pi a_),(Pi b_),(Pi nv_),(Pd.rep EnF211 cmp_)] (fun _ s' _=>(Pd.prow En.cls 51 v0 r_).p s' v0):=by
 unfold zn at h;refine zom Tryz.func190 J Tryz.ntmps190 (by rfl) (by simp) fun s0 a L=>?_;refine wp_seq_k fun K1 H1=>rg (sw 10 (zb oI J J) L fun a s L=>?_);refine en' (H1 _ _ ?_);refine wp_block ?_;have J3:∀(data2:(List Cl)) (a:Act) (s:St),Has (fun b=>v0.ownBlock=some b) 38 s0 a s [(0,(Pd.prow En.cls 51 v0 data2))]→((zn.j1 r_) data2)→(bodyPost Tryz.prog Tryz.f190 (Pst (fun b=>v0.ownBlock=some b) (fun _ s' _=>(Pd.prow En.cls 51 v0 r_).p s' v0) s0) .normal) a s.w:=by
  intro data2 a s L h;unfold zn.j1 at h;subst h;exact retm J L (c:=0) J
 obtain ⟨k6,h⟩:=h;refine lpg (fun k7 a s=>∃(data4:(List Cl)) (i5:Int),Has (fun b=>v0.ownBlock=some b) 38 s0 a s [(0,(Pd.prow En.cls 51 v0 data4)),(1,(Pi a_)),(2,(Pi b_)),(3,(Pi nv_)),(10,(Pi i5))]∧zn.l1 a_ b_ nv_ (zn.j1 r_) k7 data4 i5) k6 ⟨data_,0,L.keep (.cons (t:=0) J (fun _ _ h_=>h_) (.k 1 (.k 2 (.k 3 (.k 10 .nil))))),h⟩ ?_;rintro k7 a s ⟨data4,i5,L,h⟩ KL8 hKL8;cases k7 with
 | zero=>exact h.elim
 | succ k7=>
 unfold zn.l1 at h;refine wp_seq_k fun K9 H9=>wp_seq_k fun K10 H10=>rg (sw 11 (zd (O 10 J) J J) L fun a s L=>?_);refine sw 12 (zd (O 3 J) J J) L fun a s L=>sw 13 (zbz (O 11 J) (O 12 J) J J) L fun a s L=>en' (H10 _ _ ?_);refine cnd L J (fun hb_=>?_) (fun hb_=>?_)
 ·replace h:=h.1 hb_;refine wp_skip ?_;show K9 a s.w;refine H9 _ _ (wp_seq_k fun K11 H11=>?_);refine wp_block ?_;obtain ⟨h12,h13,h14,e15,h16,h17,e18,h19,e20,h21,e22,h23,h⟩:=h;refine rdf 24 zcm L (by kernel_rfl) fun s _ L=>?_;refine zek 4 20 L (by rfl) (by kernel_rfl) (by kernel_rfl) (by kernel_rfl) (fun _ _ _ _ h=>h) (q:=(Pd.prow En.cls 51 v0 data4)) (zh4 (O 0 J) J J) J J fun a L=>?_;refine zek 5 21 L (by rfl) (by kernel_rfl) (by kernel_rfl) (by kernel_rfl) (fun _ _ _ _ h=>h) (q:=(Pi b_)) (zh4 (O 2 J) J J) J J fun a L=>?_;refine zek 6 22 L (by rfl) (by kernel_rfl) (by kernel_rfl) (by kernel_rfl) (fun _ _ _ _ h=>h) (q:=(Pi i5)) (zh4 (O 10 J) J J) J J fun a L=>?_;refine zek 7 23 L (by rfl) (by kernel_rfl) (by kernel_rfl) (by kernel_rfl) (fun _ _ _ _ h=>h) (q:=(Pi (b_+i5))) (y_add (O 21 J) (O 22 J) h13 J J) J J fun a L=>?_;refine fl_go 21 [(Pd.prow En.cls 51 v0 data4),(Pi a_),(Pi i5),(Pi (a_+i5)),(Pd.prow En.cls 51 v0 data4),(Pi b_),(Pi i5),(Pi (b_+i5)),(Pd.prow En.cls 51 v0 data4),(Pi b_),(Pi i5),(Pi (b_+i5)),(Pd.optr En.cls 0 v0.ownBlock ((b_+i5:Int).toNat*En.cls.sz) e15),(Pd.rep En.cls e15),(Pd.prow En.cls 51 v0 data4),(Pi a_),(Pi i5),(Pi (a_+i5)),(Pd.optr En.cls 0 v0.ownBlock ((a_+i5:Int).toNat*En.cls.sz) e18),(Pd.rep En.cls e18),(Pd.optr En.cls 0 v0.ownBlock ((a_+i5:Int).toNat*En.cls.sz) e20)] [4,5,6,7] L (by kernel_rfl) (by kernel_rfl) (by kernel_rfl) (.cons (i:=4) J J J J (.cons (i:=5) J J J J (.cons (i:=6) J J J J (.cons (i:=7) J J J J .nil)))) J J ?_ ?_
  ·refine zdi.cons (zd (O 0 J) J J) ?_;refine zdi.cons (zd (O 1 J) J J) (zdi.cons (zd (O 10 J) J J) ?_);refine zdi.cons (zbk (O 17 J) (O 18 J) h12 J J) (zdi.skip J ?_);refine zdi.skip J (zdi.skip J ?_);refine zdi.skip J (zdi.cons (zd (O 0 J) J J) ?_);refine zdi.cons (zd (O 2 J) J J) (zdi.cons (zd (O 10 J) J J) ?_);refine zdi.cons (zbk (O 25 J) (O 26 J) h14 J J) (zdi.cons (zca (o_p (O 24 J)) (O 27 J) h16 U36 zco J J) ?_);refine zdi.cons (zp zco (O 28 J) J J) (zdi.cons (zd (O 0 J) J J) ?_);refine zdi.cons (zd (O 1 J) J J) (zdi.cons (zd (O 10 J) J J) ?_);refine zdi.cons (zbk (O 31 J) (O 32 J) h17 J J) (zdi.cons (zca (o_p (O 30 J)) (O 33 J) h19 U36 zco J J) ?_);refine zdi.cons (zp zco (O 34 J) J J) (zdi.cons (zca (o_p (O 16 J)) (O 19 J) h21 U36 zco J J) ?_);exact zdi.nil
  intro a s _ L;refine zfw (L':=[(0,(Pd.prow En.cls 51 v0 (data4.set (a_+i5:Int).toNat e15))),(1,(Pi a_)),(2,(Pi b_)),(3,(Pi nv_)),(10,(Pi i5)),(20,(Pd.prow En.cls 51 v0 (data4.set (a_+i5:Int).toNat e15))),(23,(Pi (b_+i5))),(35,(Pd.rep En.cls e18))]) (off:=0) 0 (fun b h=>h) L J h21 (O 36 J) (O 29 J) (zz _ _ _) zco J J J (.turn (t:=0) J (.k 1 (.k 2 (.k 3 (.k 10 (.turn (t:=20) J (.k 23 (.k 35 .nil)))))))) fun s L=>?_;refine sw 37 (zca (o_p (O 20 J)) (O 23 J) h23 U36 zco J J) L fun a s L=>zfw (L':=[(0,(Pd.prow En.cls 51 v0 ((data4.set (a_+i5:Int).toNat e15).set (b_+i5:Int).toNat e18))),(1,(Pi a_)),(2,(Pi b_)),(3,(Pi nv_)),(10,(Pi i5))]) (off:=0) 0 (fun b h=>h) L J h23 (O 37 J) (O 35 J) (zz _ _ _) zco J J J (.turn (t:=0) J (.k 1 (.k 2 (.k 3 (.k 10 .nil))))) fun s L=>?_;refine en' (H11 _ _ ?_);obtain ⟨h24,h⟩:=h;refine rg (sw 14 (zd (O 10 J) J J) L fun a s L=>?_);refine sw 15 (zbk (O 14 J) oI h24 J J) L fun a s L=>sw 10 (zb (O 15 J) J J) L fun a s L=>en' ?_;exact hKL8 k7 a s (Nat.lt_succ_self _) ⟨((data4.set (a_+i5:Int).toNat e15).set (b_+i5:Int).toNat e18),(i5+1),L.keep (.cons (t:=0) J (fun _ _ h_=>h_) (.k 1 (.k 2 (.k 3 (.k 10 .nil))))),h⟩
 ·replace h:=h.2 hb_;refine wp_exit ?_;exact J3 data4 a s (L.keep (.cons (t:=0) J (fun _ _ h_=>h_) .nil)) h
theorem zfd (v0:Value) {data_:(List Cl)} {a_:Int} {m_:Int} {b_:Int} {cmp_:(Cl × Cl × Int→Prop)} {r_:(List Cl)} (h:zw data_ a_ m_ b_ cmp_ r_):Fm Tryz.prog 189 (fun b=>v0.ownBlock=some b) [(Pd.prow En.cls 51 v0 data_),(Pi a_),(Pi m_),(Pi b_),(Pd.rep EnF211 cmp_)] (fun _ s' _=>(Pd.prow En.cls 51 v0 r_).p s' v0):=by
 unfold zw at h;refine zom Tryz.func189 J Tryz.ntmps189 (by rfl) (by simp) fun s0 a L=>?_;refine wp_seq_k fun K1 H1=>?_;obtain ⟨h2,h⟩:=h;refine rg (sw 12 (zd (O 2 J) J J) L fun a s L=>?_);refine sw 13 (zd (O 1 J) J J) L fun a s L=>sw 14 (zdy (O 12 J) (O 13 J) h2 J J) L fun a s L=>sw 10 (zb (O 14 J) J J) L fun a s L=>en' (H1 _ _ ?_);refine wp_seq_k fun K3 H3=>?_;obtain ⟨h4,h⟩:=h;refine rg (sw 15 (zd (O 3 J) J J) L fun a s L=>?_);refine sw 16 (zd (O 2 J) J J) L fun a s L=>sw 17 (zdy (O 15 J) (O 16 J) h4 J J) L fun a s L=>sw 11 (zb (O 17 J) J J) L fun a s L=>en' (H3 _ _ ?_);refine wp_seq_k fun K5 H5=>wp_block ?_;have J8:∀(data6:(List Cl)) (i7:Int) (a:Act) (s:St),Has (fun b=>v0.ownBlock=some b) 58 s0 a s [(0,(Pd.prow En.cls 51 v0 data6)),(2,(Pi m_)),(4,(Pd.rep EnF211 cmp_)),(10,(Pi i7))]→((zw.j1 m_ cmp_ r_) data6 i7)→K5 a s.w:=by
  intro data6 i7 a s L h;unfold zw.j1 at h;show K5 a s.w;refine H5 _ _ ?_;obtain ⟨h9,r10,h11,h⟩:=h;refine rg (sw 50 (zd (O 0 J) J J) L fun a s L=>?_);refine sw 51 (zd (O 2 J) J J) L fun a s L=>sw 52 (zd (O 10 J) J J) L fun a s L=>sw 53 (zdy (O 51 J) (O 52 J) h9 J J) L fun a s L=>sw 54 (zd (O 2 J) J J) L fun a s L=>sw 55 (zd (O 10 J) J J) L fun a s L=>sw 56 (zd (O 4 J) J J) L fun a s L=>zfb (L':=[(0,(Pd.prow En.cls 51 v0 r10))]) 57 (fun v0=>zce v0 h11) L (fun b h=>h) (O 50 J) (zs:=[.tmp 53,.tmp 54,.tmp 55,.tmp 56]) (.cons (O 53 J) (.cons (O 54 J) (.cons (O 55 J) (.cons (O 56 J) .nil)))) J J J J (.turn (t:=0) J .nil) fun a s L=>?_;refine en' ?_;subst h;exact retm J L (c:=0) J
 obtain ⟨k15,h⟩:=h;refine lpg (fun k16 a s=>∃(data12:(List Cl)) (i13:Int) (j14:Int),Has (fun b=>v0.ownBlock=some b) 58 s0 a s [(0,(Pd.prow En.cls 51 v0 data12)),(2,(Pi m_)),(4,(Pd.rep EnF211 cmp_)),(10,(Pi i13)),(11,(Pi j14))]∧zw.l1 m_ cmp_ (zw.j1 m_ cmp_ r_) k16 data12 i13 j14) k15 ⟨data_,(m_-a_),(b_-m_),L.keep (.cons (t:=0) J (fun _ _ h_=>h_) (.k 2 (.k 4 (.k 10 (.k 11 .nil))))),h⟩ ?_;rintro k16 a s ⟨data12,i13,j14,L,h⟩ KL17 hKL17;cases k16 with
 | zero=>exact h.elim
 | succ k16=>
 unfold zw.l1 at h;refine wp_seq_k fun K18 H18=>wp_seq_k fun K19 H19=>rg (sw 18 (zd (O 10 J) J J) L fun a s L=>?_);refine sw 19 (zd (O 11 J) J J) L fun a s L=>sw 20 (zl1 (O 18 J) (O 19 J) J J) L fun a s L=>en' (H19 _ _ ?_);refine cnd L J (fun hb_=>?_) (fun hb_=>?_)
 ·replace h:=h.1 hb_;refine wp_skip ?_;show K18 a s.w;refine H18 _ _ (wp_block ?_);refine wp_seq_k fun K20 H20=>rg (sw 21 (zd (O 10 J) J J) L fun a s L=>?_);refine sw 22 (zd (O 11 J) J J) L fun a s L=>sw 23 (zhd (O 21 J) (O 22 J) J J) L fun a s L=>en' (H20 _ _ ?_);refine cnd L J (fun hb_=>?_) (fun hb_=>?_)
  ·replace h:=h.1 hb_;refine wp_seq_k fun K21 H21=>?_;obtain ⟨h22,r23,h24,h⟩:=h;refine rg (sw 24 (zd (O 0 J) J J) L fun a s L=>?_);refine sw 25 (zd (O 2 J) J J) L fun a s L=>sw 26 (zd (O 10 J) J J) L fun a s L=>sw 27 (zdy (O 25 J) (O 26 J) h22 J J) L fun a s L=>sw 28 (zd (O 2 J) J J) L fun a s L=>sw 29 (zd (O 11 J) J J) L fun a s L=>sw 30 (zd (O 4 J) J J) L fun a s L=>zfb (L':=[(0,(Pd.prow En.cls 51 v0 r23)),(2,(Pi m_)),(4,(Pd.rep EnF211 cmp_)),(10,(Pi i13)),(11,(Pi j14))]) 31 (fun v0=>zce v0 h24) L (fun b h=>h) (O 24 J) (zs:=[.tmp 27,.tmp 28,.tmp 29,.tmp 30]) (.cons (O 27 J) (.cons (O 28 J) (.cons (O 29 J) (.cons (O 30 J) .nil)))) J J J J (.turn (t:=0) J (.k 2 (.k 4 (.k 10 (.k 11 .nil))))) fun a s L=>?_;refine en' (H21 _ _ ?_);obtain ⟨h25,h⟩:=h;refine rg (sw 32 (zd (O 10 J) J J) L fun a s L=>?_);refine sw 33 (zd (O 11 J) J J) L fun a s L=>sw 34 (zdy (O 32 J) (O 33 J) h25 J J) L fun a s L=>sw 10 (zb (O 34 J) J J) L fun a s L=>en' ?_;exact hKL17 k16 a s (Nat.lt_succ_self _) ⟨r23,(i13-j14),j14,L.keep (.cons (t:=0) J (fun _ _ h_=>h_) (.k 2 (.k 4 (.k 10 (.k 11 .nil))))),h⟩
  ·replace h:=h.2 hb_;refine wp_seq_k fun K26 H26=>?_;obtain ⟨h27,h28,h29,r30,h31,h⟩:=h;refine rg (sw 35 (zd (O 0 J) J J) L fun a s L=>?_);refine sw 36 (zd (O 2 J) J J) L fun a s L=>sw 37 (zd (O 10 J) J J) L fun a s L=>sw 38 (zdy (O 36 J) (O 37 J) h27 J J) L fun a s L=>sw 39 (zd (O 2 J) J J) L fun a s L=>sw 40 (zd (O 11 J) J J) L fun a s L=>sw 41 (zbk (O 39 J) (O 40 J) h28 J J) L fun a s L=>sw 42 (zd (O 10 J) J J) L fun a s L=>sw 43 (zdy (O 41 J) (O 42 J) h29 J J) L fun a s L=>sw 44 (zd (O 10 J) J J) L fun a s L=>?_;refine sw 45 (zd (O 4 J) J J) L fun a s L=>zfb (L':=[(0,(Pd.prow En.cls 51 v0 r30)),(2,(Pi m_)),(4,(Pd.rep EnF211 cmp_)),(10,(Pi i13)),(11,(Pi j14))]) 46 (fun v0=>zce v0 h31) L (fun b h=>h) (O 35 J) (zs:=[.tmp 38,.tmp 43,.tmp 44,.tmp 45]) (.cons (O 38 J) (.cons (O 43 J) (.cons (O 44 J) (.cons (O 45 J) .nil)))) J J J J (.turn (t:=0) J (.k 2 (.k 4 (.k 10 (.k 11 .nil))))) fun a s L=>?_;refine en' (H26 _ _ ?_);obtain ⟨h32,h⟩:=h;refine rg (sw 47 (zd (O 11 J) J J) L fun a s L=>?_);refine sw 48 (zd (O 10 J) J J) L fun a s L=>sw 49 (zdy (O 47 J) (O 48 J) h32 J J) L fun a s L=>sw 11 (zb (O 49 J) J J) L fun a s L=>en' ?_;exact hKL17 k16 a s (Nat.lt_succ_self _) ⟨r30,i13,(j14-i13),L.keep (.cons (t:=0) J (fun _ _ h_=>h_) (.k 2 (.k 4 (.k 10 (.k 11 .nil))))),h⟩
 ·replace h:=h.2 hb_;refine wp_exit ?_;exact J8 data12 i13 a s (L.keep (.cons (t:=0) J (fun _ _ h_=>h_) (.k 2 (.k 4 (.k 10 .nil))))) h
theorem za.n_ok (k_:Nat):∀(v0:Value) {data_:(List Cl)} {a_:Int} {m_:Int} {b_:Int} {cmp_:(Cl × Cl × Int→Prop)} {r_:(List Cl)} (h:za.n k_ data_ a_ m_ b_ cmp_ r_),Fm Tryz.prog 186 (fun b=>v0.ownBlock=some b) [(Pd.prow En.cls 51 v0 data_),(Pi a_),(Pi m_),(Pi b_),(Pd.rep EnF211 cmp_)] (fun _ s' _=>(Pd.prow En.cls 51 v0 r_).p s' v0):=by
 induction k_ with
 | zero=>intro v0 data_ a_ m_ b_ cmp_ r_ h;exact h.elim
 | succ k_ ih_=>
 intro v0 data_ a_ m_ b_ cmp_ r_ h;unfold za.n at h;refine zom Tryz.func186 J Tryz.ntmps186 (by rfl) (by simp) fun s0 a L=>?_;refine wp_seq_k fun K1 H1=>wp_seq_k fun K2 H2=>?_;obtain ⟨h3,h⟩:=h;refine rg (sw 25 (zd (O 2 J) J J) L fun a s L=>?_);refine sw 26 (zd (O 1 J) J J) L fun a s L=>sw 27 (zdy (O 25 J) (O 26 J) h3 J J) L fun a s L=>sw 28 (zbt (O 27 J) oI J J) L fun a s L=>en' (H2 _ _ ?_);refine cnd L J (fun hb_=>?_) (fun hb_=>?_)
 ·replace h:=h.1 hb_;refine wp_seq_k fun K4 H4=>rg (sw 29 (zd (O 2 J) J J) L fun a s L=>?_);refine sw 10 (zb (O 29 J) J J) L fun a s L=>en' (H4 _ _ ?_);refine wp_seq_k fun K5 H5=>rg (sw 30 (zd (O 3 J) J J) L fun a s L=>?_);refine sw 11 (zb (O 30 J) J J) L fun a s L=>en' (H5 _ _ ?_);refine wp_seq_k fun K6 H6=>wp_block ?_;have J8:∀(i7:Int) (a:Act) (s:St),Has (fun b=>v0.ownBlock=some b) 220 s0 a s [(0,(Pd.prow En.cls 51 v0 data_)),(1,(Pi a_)),(10,(Pi i7))]→((za.j2 data_ a_ r_) i7)→K6 a s.w:=by
   intro i7 a s L h;unfold za.j2 at h;show K6 a s.w;refine H6 _ _ (wp_seq_k fun K9 H9=>?_);refine wp_seq_k fun K10 H10=>rg (sw 54 (zd (O 1 J) J J) L fun a s L=>?_);refine sw 13 (zb (O 54 J) J J) L fun a s L=>en' (H10 _ _ ?_);refine wp_block ?_;have J12:∀(data11:(List Cl)) (a:Act) (s:St),Has (fun b=>v0.ownBlock=some b) 220 s0 a s [(0,(Pd.prow En.cls 51 v0 data11))]→((za.j1 r_) data11)→K9 a s.w:=by
    intro data11 a s L h;unfold za.j1 at h;show K9 a s.w;refine H9 _ _ ?_;subst h;exact wp_ret (retm J L (c:=0) J)
   obtain ⟨k15,h⟩:=h;refine lpg (fun k16 a s=>∃(data13:(List Cl)) (k14:Int),Has (fun b=>v0.ownBlock=some b) 220 s0 a s [(0,(Pd.prow En.cls 51 v0 data13)),(10,(Pi i7)),(13,(Pi k14))]∧za.l1 i7 (za.j1 r_) k16 data13 k14) k15 ⟨data_,a_,L.keep (.cons (t:=0) J (fun _ _ h_=>h_) (.k 10 (.k 13 .nil))),h⟩ ?_;rintro k16 a s ⟨data13,k14,L,h⟩ KL17 hKL17;cases k16 with
   | zero=>exact h.elim
   | succ k16=>
   unfold za.l1 at h;refine wp_seq_k fun K18 H18=>wp_seq_k fun K19 H19=>?_;obtain ⟨h20,h⟩:=h;refine rg (sw 55 (zd (O 13 J) J J) L fun a s L=>?_);refine sw 56 (zd (O 10 J) J J) L fun a s L=>sw 57 (zdy (O 56 J) oI h20 J J) L fun a s L=>sw 58 (zbz (O 55 J) (O 57 J) J J) L fun a s L=>en' (H19 _ _ ?_);refine cnd L J (fun hb_=>?_) (fun hb_=>?_)
   ·replace h:=h.1 hb_;refine wp_skip ?_;show K18 a s.w;refine H18 _ _ (wp_seq_k fun K21 H21=>?_);refine wp_block ?_;obtain ⟨h22,h23,e24,h25,e26,h27,e28,h29,e30,h31,h⟩:=h;refine rdf 18 zcm L (by kernel_rfl) fun s _ L=>?_;refine zek 2 63 L (by rfl) (by kernel_rfl) (by kernel_rfl) (by kernel_rfl) (fun _ _ _ _ h=>h) (q:=(Pd.prow En.cls 51 v0 data13)) (zh4 (O 0 J) J J) J J fun a L=>?_;refine zek 3 64 L (by rfl) (by kernel_rfl) (by kernel_rfl) (by kernel_rfl) (fun _ _ _ _ h=>h) (q:=(Pi k14)) (zh4 (O 13 J) J J) J J fun a L=>?_;refine zek 4 65 L (by rfl) (by kernel_rfl) (by kernel_rfl) (by kernel_rfl) (fun _ _ _ _ h=>h) (q:=(Pi (k14+1))) (y_add (O 64 J) oI h22 J J) J J fun a L=>?_;refine fl_go 15 [(Pd.prow En.cls 51 v0 data13),(Pi k14),(Pd.prow En.cls 51 v0 data13),(Pi k14),(Pi (k14+1)),(Pd.prow En.cls 51 v0 data13),(Pi k14),(Pi (k14+1)),(Pd.optr En.cls 0 v0.ownBlock ((k14+1:Int).toNat*En.cls.sz) e24),(Pd.rep En.cls e24),(Pd.prow En.cls 51 v0 data13),(Pi k14),(Pd.optr En.cls 0 v0.ownBlock ((k14:Int).toNat*En.cls.sz) e26),(Pd.rep En.cls e26),(Pd.optr En.cls 0 v0.ownBlock ((k14:Int).toNat*En.cls.sz) e28)] [2,3,4] L (by kernel_rfl) (by kernel_rfl) (by kernel_rfl) (.cons (i:=2) J J J J (.cons (i:=3) J J J J (.cons (i:=4) J J J J .nil))) J J ?_ ?_
    ·refine zdi.cons (zd (O 0 J) J J) ?_;refine zdi.cons (zd (O 13 J) J J) (zdi.skip J ?_);refine zdi.skip J (zdi.skip J ?_);refine zdi.cons (zd (O 0 J) J J) (zdi.cons (zd (O 13 J) J J) ?_);refine zdi.cons (zbk (O 67 J) oI h23 J J) (zdi.cons (zca (o_p (O 66 J)) (O 68 J) h25 U36 zco J J) ?_);refine zdi.cons (zp zco (O 69 J) J J) (zdi.cons (zd (O 0 J) J J) ?_);refine zdi.cons (zd (O 13 J) J J) (zdi.cons (zca (o_p (O 71 J)) (O 72 J) h27 U36 zco J J) ?_);refine zdi.cons (zp zco (O 73 J) J J) (zdi.cons (zca (o_p (O 61 J)) (O 62 J) h29 U36 zco J J) ?_);exact zdi.nil
    intro a s _ L;refine zfw (L':=[(0,(Pd.prow En.cls 51 v0 (data13.set (k14:Int).toNat e24))),(10,(Pi i7)),(13,(Pi k14)),(63,(Pd.prow En.cls 51 v0 (data13.set (k14:Int).toNat e24))),(65,(Pi (k14+1))),(74,(Pd.rep En.cls e26))]) (off:=0) 0 (fun b h=>h) L J h29 (O 75 J) (O 70 J) (zz _ _ _) zco J J J (.turn (t:=0) J (.k 10 (.k 13 (.turn (t:=63) J (.k 65 (.k 74 .nil)))))) fun s L=>?_;refine sw 76 (zca (o_p (O 63 J)) (O 65 J) h31 U36 zco J J) L fun a s L=>zfw (L':=[(0,(Pd.prow En.cls 51 v0 ((data13.set (k14:Int).toNat e24).set (k14+1:Int).toNat e26))),(10,(Pi i7)),(13,(Pi k14))]) (off:=0) 0 (fun b h=>h) L J h31 (O 76 J) (O 74 J) (zz _ _ _) zco J J J (.turn (t:=0) J (.k 10 (.k 13 .nil))) fun s L=>?_;refine en' (H21 _ _ ?_);obtain ⟨h32,h⟩:=h;refine rg (sw 59 (zd (O 13 J) J J) L fun a s L=>?_);refine sw 60 (zbk (O 59 J) oI h32 J J) L fun a s L=>sw 13 (zb (O 60 J) J J) L fun a s L=>en' ?_;exact hKL17 k16 a s (Nat.lt_succ_self _) ⟨((data13.set (k14:Int).toNat e24).set (k14+1:Int).toNat e26),(k14+1),L.keep (.cons (t:=0) J (fun _ _ h_=>h_) (.k 10 (.k 13 .nil))),h⟩
   ·replace h:=h.2 hb_;refine wp_exit ?_;exact J12 data13 a s (L.keep (.cons (t:=0) J (fun _ _ h_=>h_) .nil)) h
  obtain ⟨k35,h⟩:=h;refine lpg (fun k36 a s=>∃(i33:Int) (j34:Int),Has (fun b=>v0.ownBlock=some b) 220 s0 a s [(0,(Pd.prow En.cls 51 v0 data_)),(1,(Pi a_)),(4,(Pd.rep EnF211 cmp_)),(10,(Pi i33)),(11,(Pi j34))]∧za.l2 data_ a_ cmp_ (za.j2 data_ a_ r_) k36 i33 j34) k35 ⟨m_,b_,L.keep (.cons (t:=0) J (fun _ _ h_=>h_) (.k 1 (.k 4 (.k 10 (.k 11 .nil))))),h⟩ ?_;rintro k36 a s ⟨i33,j34,L,h⟩ KL37 hKL37;cases k36 with
  | zero=>exact h.elim
  | succ k36=>
  unfold za.l2 at h;refine wp_seq_k fun K38 H38=>wp_seq_k fun K39 H39=>rg (sw 31 (zd (O 10 J) J J) L fun a s L=>?_);refine sw 32 (zd (O 11 J) J J) L fun a s L=>sw 33 (zbz (O 31 J) (O 32 J) J J) L fun a s L=>en' (H39 _ _ ?_);refine cnd L J (fun hb_=>?_) (fun hb_=>?_)
  ·replace h:=h.1 hb_;refine wp_skip ?_;show K38 a s.w;refine H38 _ _ (wp_block ?_);refine wp_seq_k fun K40 H40=>?_;obtain ⟨h41,i42,h43,h⟩:=h;refine rg (sw 34 (zd (O 10 J) J J) L fun a s L=>?_);refine sw 35 (zd (O 11 J) J J) L fun a s L=>sw 36 (zbk (O 34 J) (O 35 J) h41 J J) L fun a s L=>sw 37 (t_cvt (O 36 J) U3 U133 J J) L fun a s L=>sw 38 (t_shr (O 37 J) (o_i (k:=.u64) (by decide)) (by decide) J J) L fun a s L=>sw 39 (h43 ▸ (t_cvt (O 38 J) U133 U3 J J)) L fun a s L=>sw 12 (zb (O 39 J) J J) L fun a s L=>en' (H40 _ _ ?_);refine wp_seq_k fun K44 H44=>?_;obtain ⟨e45,h46,e47,h48,r49,h50,h⟩:=h;refine rda zcm 11 [(Pd.rep EnF211 cmp_),(Pd.prow En.cls 51 v0 data_),(Pi i42),(Pd.optr En.cls 0 v0.ownBlock ((i42:Int).toNat*En.cls.sz) e45),(Pd.rep En.cls e45),(Pd.prow En.cls 51 v0 data_),(Pi a_),(Pd.optr En.cls 0 v0.ownBlock ((a_:Int).toNat*En.cls.sz) e47),(Pd.rep En.cls e47),(Pi r49),(Pd.rep En.bool (decide (r49<0)))] L (by kernel_rfl) J J ?_ ?_
   ·refine z8.cons (zd (O 4 J) J J) ?_;refine z8.cons (zd (O 0 J) J J) (z8.cons (zd (O 12 J) J J) ?_);refine z8.cons (zca (o_p (O 41 J)) (O 42 J) h46 U36 zco J J) (z8.cons (zp zco (O 43 J) J J) ?_);refine z8.cons (zd (O 0 J) J J) (z8.cons (zd (O 1 J) J J) ?_);refine z8.cons (zca (o_p (O 45 J)) (O 46 J) h48 U36 zco J J) (z8.cons (zp zco (O 47 J) J J) ?_);refine z8.cons (zfo (q:=(e45,e47,r49)) (O 40 J) h50 (xs:=[.tmp 44,.tmp 48]) (.cons (O 44 J) (.cons (O 48 J) .nil)) (fun _ _ _ h_=>h_) J J) (z8.cons (zbz (O 49 J) oI J J) ?_);exact z8.nil
   intro a s _ L;refine en' (H44 _ _ ?_);refine cnd L J (fun hb_=>?_) (fun hb_=>?_)
   ·obtain ⟨h51,h⟩:=h.1 hb_;refine rg (sw 51 (zd (O 12 J) J J) L fun a s L=>?_);refine sw 52 (zbk (O 51 J) oI h51 J J) L fun a s L=>sw 10 (zb (O 52 J) J J) L fun a s L=>en' ?_;exact hKL37 k36 a s (Nat.lt_succ_self _) ⟨(i42+1),j34,L.keep (.cons (t:=0) J (fun _ _ h_=>h_) (.k 1 (.k 4 (.k 10 (.k 11 .nil))))),h⟩
   ·replace h:=h.2 hb_;refine rg (sw 53 (zd (O 12 J) J J) L fun a s L=>?_);refine sw 11 (zb (O 53 J) J J) L fun a s L=>en' ?_;exact hKL37 k36 a s (Nat.lt_succ_self _) ⟨i33,i42,L.keep (.cons (t:=0) J (fun _ _ h_=>h_) (.k 1 (.k 4 (.k 10 (.k 11 .nil))))),h⟩
  ·replace h:=h.2 hb_;refine wp_exit ?_;exact J8 i33 a s (L.keep (.cons (t:=0) J (fun _ _ h_=>h_) (.k 1 (.k 10 .nil)))) h
 ·replace h:=h.2 hb_;refine wp_skip ?_;show K1 a s.w;refine H1 _ _ (wp_seq_k fun K52 H52=>?_);refine wp_seq_k fun K53 H53=>?_;obtain ⟨h54,h⟩:=h;refine rg (sw 77 (zd (O 3 J) J J) L fun a s L=>?_);refine sw 78 (zd (O 2 J) J J) L fun a s L=>sw 79 (zdy (O 77 J) (O 78 J) h54 J J) L fun a s L=>sw 80 (zbt (O 79 J) oI J J) L fun a s L=>en' (H53 _ _ ?_);refine cnd L J (fun hb_=>?_) (fun hb_=>?_)
  ·replace h:=h.1 hb_;refine wp_seq_k fun K55 H55=>rg (sw 81 (zd (O 1 J) J J) L fun a s L=>?_);refine sw 14 (zb (O 81 J) J J) L fun a s L=>en' (H55 _ _ ?_);refine wp_seq_k fun K56 H56=>rg (sw 82 (zd (O 2 J) J J) L fun a s L=>?_);refine sw 15 (zb (O 82 J) J J) L fun a s L=>en' (H56 _ _ ?_);refine wp_seq_k fun K57 H57=>wp_block ?_;have J59:∀(i58:Int) (a:Act) (s:St),Has (fun b=>v0.ownBlock=some b) 220 s0 a s [(0,(Pd.prow En.cls 51 v0 data_)),(2,(Pi m_)),(14,(Pi i58))]→((za.j4 data_ m_ r_) i58)→K57 a s.w:=by
    intro i58 a s L h;unfold za.j4 at h;show K57 a s.w;refine H57 _ _ (wp_seq_k fun K60 H60=>?_);refine wp_seq_k fun K61 H61=>rg (sw 107 (zd (O 2 J) J J) L fun a s L=>?_);refine sw 17 (zb (O 107 J) J J) L fun a s L=>en' (H61 _ _ ?_);refine wp_block ?_;have J63:∀(data62:(List Cl)) (a:Act) (s:St),Has (fun b=>v0.ownBlock=some b) 220 s0 a s [(0,(Pd.prow En.cls 51 v0 data62))]→((za.j3 r_) data62)→K60 a s.w:=by
     intro data62 a s L h;unfold za.j3 at h;show K60 a s.w;refine H60 _ _ ?_;subst h;exact wp_ret (retm J L (c:=0) J)
    obtain ⟨k66,h⟩:=h;refine lpg (fun k67 a s=>∃(data64:(List Cl)) (k65:Int),Has (fun b=>v0.ownBlock=some b) 220 s0 a s [(0,(Pd.prow En.cls 51 v0 data64)),(14,(Pi i58)),(17,(Pi k65))]∧za.l3 i58 (za.j3 r_) k67 data64 k65) k66 ⟨data_,m_,L.keep (.cons (t:=0) J (fun _ _ h_=>h_) (.k 14 (.k 17 .nil))),h⟩ ?_;rintro k67 a s ⟨data64,k65,L,h⟩ KL68 hKL68;cases k67 with
    | zero=>exact h.elim
    | succ k67=>
    unfold za.l3 at h;refine wp_seq_k fun K69 H69=>wp_seq_k fun K70 H70=>rg (sw 108 (zd (O 17 J) J J) L fun a s L=>?_);refine sw 109 (zd (O 14 J) J J) L fun a s L=>sw 110 (zhd (O 108 J) (O 109 J) J J) L fun a s L=>en' (H70 _ _ ?_);refine cnd L J (fun hb_=>?_) (fun hb_=>?_)
    ·replace h:=h.1 hb_;refine wp_skip ?_;show K69 a s.w;refine H69 _ _ (wp_seq_k fun K71 H71=>?_);refine wp_block ?_;obtain ⟨h72,h73,e74,h75,e76,h77,e78,h79,e80,h81,h⟩:=h;refine rdf 18 zcm L (by kernel_rfl) fun s _ L=>?_;refine zek 2 115 L (by rfl) (by kernel_rfl) (by kernel_rfl) (by kernel_rfl) (fun _ _ _ _ h=>h) (q:=(Pd.prow En.cls 51 v0 data64)) (zh4 (O 0 J) J J) J J fun a L=>?_;refine zek 3 116 L (by rfl) (by kernel_rfl) (by kernel_rfl) (by kernel_rfl) (fun _ _ _ _ h=>h) (q:=(Pi k65)) (zh4 (O 17 J) J J) J J fun a L=>?_;refine zek 4 117 L (by rfl) (by kernel_rfl) (by kernel_rfl) (by kernel_rfl) (fun _ _ _ _ h=>h) (q:=(Pi (k65-1))) (y_sub (O 116 J) oI h72 J J) J J fun a L=>?_;refine fl_go 15 [(Pd.prow En.cls 51 v0 data64),(Pi k65),(Pd.prow En.cls 51 v0 data64),(Pi k65),(Pi (k65-1)),(Pd.prow En.cls 51 v0 data64),(Pi k65),(Pi (k65-1)),(Pd.optr En.cls 0 v0.ownBlock ((k65-1:Int).toNat*En.cls.sz) e74),(Pd.rep En.cls e74),(Pd.prow En.cls 51 v0 data64),(Pi k65),(Pd.optr En.cls 0 v0.ownBlock ((k65:Int).toNat*En.cls.sz) e76),(Pd.rep En.cls e76),(Pd.optr En.cls 0 v0.ownBlock ((k65:Int).toNat*En.cls.sz) e78)] [2,3,4] L (by kernel_rfl) (by kernel_rfl) (by kernel_rfl) (.cons (i:=2) J J J J (.cons (i:=3) J J J J (.cons (i:=4) J J J J .nil))) J J ?_ ?_
     ·refine zdi.cons (zd (O 0 J) J J) ?_;refine zdi.cons (zd (O 17 J) J J) (zdi.skip J ?_);refine zdi.skip J (zdi.skip J ?_);refine zdi.cons (zd (O 0 J) J J) (zdi.cons (zd (O 17 J) J J) ?_);refine zdi.cons (zdy (O 119 J) oI h73 J J) (zdi.cons (zca (o_p (O 118 J)) (O 120 J) h75 U36 zco J J) ?_);refine zdi.cons (zp zco (O 121 J) J J) (zdi.cons (zd (O 0 J) J J) ?_);refine zdi.cons (zd (O 17 J) J J) (zdi.cons (zca (o_p (O 123 J)) (O 124 J) h77 U36 zco J J) ?_);refine zdi.cons (zp zco (O 125 J) J J) (zdi.cons (zca (o_p (O 113 J)) (O 114 J) h79 U36 zco J J) ?_);exact zdi.nil
     intro a s _ L;refine zfw (L':=[(0,(Pd.prow En.cls 51 v0 (data64.set (k65:Int).toNat e74))),(14,(Pi i58)),(17,(Pi k65)),(115,(Pd.prow En.cls 51 v0 (data64.set (k65:Int).toNat e74))),(117,(Pi (k65-1))),(126,(Pd.rep En.cls e76))]) (off:=0) 0 (fun b h=>h) L J h79 (O 127 J) (O 122 J) (zz _ _ _) zco J J J (.turn (t:=0) J (.k 14 (.k 17 (.turn (t:=115) J (.k 117 (.k 126 .nil)))))) fun s L=>?_;refine sw 128 (zca (o_p (O 115 J)) (O 117 J) h81 U36 zco J J) L fun a s L=>zfw (L':=[(0,(Pd.prow En.cls 51 v0 ((data64.set (k65:Int).toNat e74).set (k65-1:Int).toNat e76))),(14,(Pi i58)),(17,(Pi k65))]) (off:=0) 0 (fun b h=>h) L J h81 (O 128 J) (O 126 J) (zz _ _ _) zco J J J (.turn (t:=0) J (.k 14 (.k 17 .nil))) fun s L=>?_;refine en' (H71 _ _ ?_);obtain ⟨h82,h⟩:=h;refine rg (sw 111 (zd (O 17 J) J J) L fun a s L=>?_);refine sw 112 (zdy (O 111 J) oI h82 J J) L fun a s L=>sw 17 (zb (O 112 J) J J) L fun a s L=>en' ?_;exact hKL68 k67 a s (Nat.lt_succ_self _) ⟨((data64.set (k65:Int).toNat e74).set (k65-1:Int).toNat e76),(k65-1),L.keep (.cons (t:=0) J (fun _ _ h_=>h_) (.k 14 (.k 17 .nil))),h⟩
    ·replace h:=h.2 hb_;refine wp_exit ?_;exact J63 data64 a s (L.keep (.cons (t:=0) J (fun _ _ h_=>h_) .nil)) h
   obtain ⟨k85,h⟩:=h;refine lpg (fun k86 a s=>∃(i83:Int) (j84:Int),Has (fun b=>v0.ownBlock=some b) 220 s0 a s [(0,(Pd.prow En.cls 51 v0 data_)),(2,(Pi m_)),(4,(Pd.rep EnF211 cmp_)),(14,(Pi i83)),(15,(Pi j84))]∧za.l4 data_ m_ cmp_ (za.j4 data_ m_ r_) k86 i83 j84) k85 ⟨a_,m_,L.keep (.cons (t:=0) J (fun _ _ h_=>h_) (.k 2 (.k 4 (.k 14 (.k 15 .nil))))),h⟩ ?_;rintro k86 a s ⟨i83,j84,L,h⟩ KL87 hKL87;cases k86 with
   | zero=>exact h.elim
   | succ k86=>
   unfold za.l4 at h;refine wp_seq_k fun K88 H88=>wp_seq_k fun K89 H89=>rg (sw 83 (zd (O 14 J) J J) L fun a s L=>?_);refine sw 84 (zd (O 15 J) J J) L fun a s L=>sw 85 (zbz (O 83 J) (O 84 J) J J) L fun a s L=>en' (H89 _ _ ?_);refine cnd L J (fun hb_=>?_) (fun hb_=>?_)
   ·replace h:=h.1 hb_;refine wp_skip ?_;show K88 a s.w;refine H88 _ _ (wp_block ?_);refine wp_seq_k fun K90 H90=>?_;obtain ⟨h91,i92,h93,h⟩:=h;refine rg (sw 86 (zd (O 14 J) J J) L fun a s L=>?_);refine sw 87 (zd (O 15 J) J J) L fun a s L=>sw 88 (zbk (O 86 J) (O 87 J) h91 J J) L fun a s L=>sw 89 (t_cvt (O 88 J) U3 U133 J J) L fun a s L=>sw 90 (t_shr (O 89 J) (o_i (k:=.u64) (by decide)) (by decide) J J) L fun a s L=>sw 91 (h93 ▸ (t_cvt (O 90 J) U133 U3 J J)) L fun a s L=>sw 16 (zb (O 91 J) J J) L fun a s L=>en' (H90 _ _ ?_);refine wp_seq_k fun K94 H94=>?_;obtain ⟨e95,h96,e97,h98,r99,h100,h⟩:=h;refine rda zcm 12 [(Pd.rep EnF211 cmp_),(Pd.prow En.cls 51 v0 data_),(Pi m_),(Pd.optr En.cls 0 v0.ownBlock ((m_:Int).toNat*En.cls.sz) e95),(Pd.rep En.cls e95),(Pd.prow En.cls 51 v0 data_),(Pi i92),(Pd.optr En.cls 0 v0.ownBlock ((i92:Int).toNat*En.cls.sz) e97),(Pd.rep En.cls e97),(Pi r99),(Pd.rep En.bool (decide (r99<0))),(Pd.rep En.bool (!(decide (r99<0))))] L (by kernel_rfl) J J ?_ ?_
    ·refine z8.cons (zd (O 4 J) J J) ?_;refine z8.cons (zd (O 0 J) J J) (z8.cons (zd (O 2 J) J J) ?_);refine z8.cons (zca (o_p (O 93 J)) (O 94 J) h96 U36 zco J J) (z8.cons (zp zco (O 95 J) J J) ?_);refine z8.cons (zd (O 0 J) J J) (z8.cons (zd (O 16 J) J J) ?_);refine z8.cons (zca (o_p (O 97 J)) (O 98 J) h98 U36 zco J J) (z8.cons (zp zco (O 99 J) J J) ?_);refine z8.cons (zfo (q:=(e95,e97,r99)) (O 92 J) h100 (xs:=[.tmp 96,.tmp 100]) (.cons (O 96 J) (.cons (O 100 J) .nil)) (fun _ _ _ h_=>h_) J J) (z8.cons (zbz (O 101 J) oI J J) ?_);refine z8.cons (zia (O 102 J) J J) ?_;exact z8.nil
    intro a s _ L;refine en' (H94 _ _ ?_);refine cnd L J (fun hb_=>?_) (fun hb_=>?_)
    ·obtain ⟨h101,h⟩:=h.1 hb_;refine rg (sw 104 (zd (O 16 J) J J) L fun a s L=>?_);refine sw 105 (zbk (O 104 J) oI h101 J J) L fun a s L=>sw 14 (zb (O 105 J) J J) L fun a s L=>en' ?_;exact hKL87 k86 a s (Nat.lt_succ_self _) ⟨(i92+1),j84,L.keep (.cons (t:=0) J (fun _ _ h_=>h_) (.k 2 (.k 4 (.k 14 (.k 15 .nil))))),h⟩
    ·replace h:=h.2 hb_;refine rg (sw 106 (zd (O 16 J) J J) L fun a s L=>?_);refine sw 15 (zb (O 106 J) J J) L fun a s L=>en' ?_;exact hKL87 k86 a s (Nat.lt_succ_self _) ⟨i83,i92,L.keep (.cons (t:=0) J (fun _ _ h_=>h_) (.k 2 (.k 4 (.k 14 (.k 15 .nil))))),h⟩
   ·replace h:=h.2 hb_;refine wp_exit ?_;exact J59 i83 a s (L.keep (.cons (t:=0) J (fun _ _ h_=>h_) (.k 2 (.k 14 .nil)))) h
  ·replace h:=h.2 hb_;refine wp_skip ?_;show K52 a s.w;refine H52 _ _ (wp_seq_k fun K102 H102=>?_);obtain ⟨h103,i104,h105,h⟩:=h;refine rg (sw 129 (zd (O 1 J) J J) L fun a s L=>?_);refine sw 130 (zd (O 3 J) J J) L fun a s L=>sw 131 (zbk (O 129 J) (O 130 J) h103 J J) L fun a s L=>sw 132 (t_cvt (O 131 J) U3 U133 J J) L fun a s L=>sw 133 (t_shr (O 132 J) (o_i (k:=.u64) (by decide)) (by decide) J J) L fun a s L=>sw 134 (h105 ▸ (t_cvt (O 133 J) U133 U3 J J)) L fun a s L=>sw 18 (zb (O 134 J) J J) L fun a s L=>en' (H102 _ _ ?_);refine wp_seq_k fun K106 H106=>?_;obtain ⟨h107,h⟩:=h;refine rg (sw 135 (zd (O 18 J) J J) L fun a s L=>?_);refine sw 136 (zd (O 2 J) J J) L fun a s L=>sw 137 (zbk (O 135 J) (O 136 J) h107 J J) L fun a s L=>sw 19 (zb (O 137 J) J J) L fun a s L=>en' (H106 _ _ ?_);refine wp_seq_k fun K108 H108=>rg (sw 20 (zb oI J J) L fun a s L=>?_);refine sw 21 (zb oI J J) L fun a s L=>en' (H108 _ _ ?_);refine wp_seq_k fun K109 H109=>wp_seq_k fun K110 H110=>rg (sw 138 (zd (O 2 J) J J) L fun a s L=>?_);refine sw 139 (zd (O 18 J) J J) L fun a s L=>sw 140 (zhd (O 138 J) (O 139 J) J J) L fun a s L=>en' (H110 _ _ ?_);have J113:∀(start111:Int) (r112:Int) (a:Act) (s:St),Has (fun b=>v0.ownBlock=some b) 220 s0 a s [(0,(Pd.prow En.cls 51 v0 data_)),(1,(Pi a_)),(2,(Pi m_)),(3,(Pi b_)),(4,(Pd.rep EnF211 cmp_)),(18,(Pi i104)),(19,(Pi (i104+m_))),(20,(Pi start111)),(21,(Pi r112))]→((za.j8 (za.n k_) data_ a_ m_ b_ cmp_ r_ i104) start111 r112)→K109 a s.w:=by
    intro start111 r112 a s L h;unfold za.j8 at h;show K109 a s.w;refine H109 _ _ (wp_seq_k fun K114 H114=>?_);obtain ⟨h115,h⟩:=h;refine rg (sw 147 (zd (O 19 J) J J) L fun a s L=>?_);refine sw 148 (zdy (O 147 J) oI h115 J J) L fun a s L=>sw 22 (zb (O 148 J) J J) L fun a s L=>en' (H114 _ _ ?_);refine wp_seq_k fun K116 H116=>wp_block ?_;have J118:∀(start117:Int) (a:Act) (s:St),Has (fun b=>v0.ownBlock=some b) 220 s0 a s [(0,(Pd.prow En.cls 51 v0 data_)),(1,(Pi a_)),(2,(Pi m_)),(3,(Pi b_)),(4,(Pd.rep EnF211 cmp_)),(18,(Pi i104)),(19,(Pi (i104+m_))),(20,(Pi start117))]→((za.j7 (za.n k_) data_ a_ m_ b_ cmp_ r_ i104) start117)→K116 a s.w:=by
     intro start117 a s L h;unfold za.j7 at h;show K116 a s.w;refine H116 _ _ (wp_seq_k fun K119 H119=>?_);obtain ⟨h120,h⟩:=h;refine rg (sw 175 (zd (O 19 J) J J) L fun a s L=>?_);refine sw 176 (zd (O 20 J) J J) L fun a s L=>sw 177 (zdy (O 175 J) (O 176 J) h120 J J) L fun a s L=>sw 24 (zb (O 177 J) J J) L fun a s L=>en' (H119 _ _ ?_);refine wp_seq_k fun K121 H121=>wp_seq_k fun K122 H122=>?_;obtain ⟨b123,h124,h⟩:=h;refine rg (sw 178 (zd (O 20 J) J J) L fun a s L=>?_);refine sw 179 (zd (O 2 J) J J) L fun a s L=>sw 180 (zbz (O 178 J) (O 179 J) J J) L fun a s L=>sw 181 (zd (O 180 J) J J) L fun a s L=>sw 182 (zbg J J J (fun hc_=>zd (O 2 J) J J)) L fun a s L=>sw 183 (zbg J J J (fun hc_=>zd (O 24 J) J J)) L fun a s L=>sw 184 (zbg J J J (fun hc_=>zbz (o_w hc_ 182 J) (o_w hc_ 183 J) J J)) L fun a s L=>sw 185 (h124 ▸ (zc1 (O 181 J) (fun hc2_=>(o_w hc2_ 184 J)) J J)) L fun a s L=>en' (H122 _ _ ?_);have J126:∀(data125:(List Cl)) (a:Act) (s:St),Has (fun b=>v0.ownBlock=some b) 220 s0 a s [(0,(Pd.prow En.cls 51 v0 data125)),(1,(Pi a_)),(3,(Pi b_)),(4,(Pd.rep EnF211 cmp_)),(18,(Pi i104)),(20,(Pi start117)),(24,(Pi ((i104+m_)-start117)))]→((za.j6 (za.n k_) a_ m_ b_ cmp_ r_ i104 start117) data125)→K121 a s.w:=by
      intro data125 a s L h;unfold za.j6 at h;show K121 a s.w;refine H121 _ _ (wp_seq_k fun K127 H127=>?_);refine wp_seq_k fun K128 H128=>?_;obtain ⟨b129,h130,h⟩:=h;refine rg (sw 192 (zd (O 1 J) J J) L fun a s L=>?_);refine sw 193 (zd (O 20 J) J J) L fun a s L=>sw 194 (zbz (O 192 J) (O 193 J) J J) L fun a s L=>sw 195 (zd (O 194 J) J J) L fun a s L=>sw 196 (zbg J J J (fun hc_=>zd (O 20 J) J J)) L fun a s L=>sw 197 (zbg J J J (fun hc_=>zd (O 18 J) J J)) L fun a s L=>sw 198 (zbg J J J (fun hc_=>zbz (o_w hc_ 196 J) (o_w hc_ 197 J) J J)) L fun a s L=>sw 199 (h130 ▸ (zc1 (O 195 J) (fun hc2_=>(o_w hc2_ 198 J)) J J)) L fun a s L=>en' (H128 _ _ ?_);have J132:∀(data131:(List Cl)) (a:Act) (s:St),Has (fun b=>v0.ownBlock=some b) 220 s0 a s [(0,(Pd.prow En.cls 51 v0 data131)),(3,(Pi b_)),(4,(Pd.rep EnF211 cmp_)),(18,(Pi i104)),(24,(Pi ((i104+m_)-start117)))]→((za.j5 (za.n k_) m_ b_ cmp_ r_ i104 start117) data131)→K127 a s.w:=by
       intro data131 a s L h;unfold za.j5 at h;show K127 a s.w;refine H127 _ _ (wp_seq_k fun K133 H133=>?_);obtain ⟨b134,h135,h⟩:=h;refine rg (sw 206 (zd (O 18 J) J J) L fun a s L=>?_);refine sw 207 (zd (O 24 J) J J) L fun a s L=>sw 208 (zbz (O 206 J) (O 207 J) J J) L fun a s L=>sw 209 (zd (O 208 J) J J) L fun a s L=>sw 210 (zbg J J J (fun hc_=>zd (O 24 J) J J)) L fun a s L=>sw 211 (zbg J J J (fun hc_=>zd (O 3 J) J J)) L fun a s L=>sw 212 (zbg J J J (fun hc_=>zbz (o_w hc_ 210 J) (o_w hc_ 211 J) J J)) L fun a s L=>sw 213 (h135 ▸ (zc1 (O 209 J) (fun hc2_=>(o_w hc2_ 212 J)) J J)) L fun a s L=>en' (H133 _ _ ?_);refine cnd L J (fun hb_=>?_) (fun hb_=>?_)
       ·obtain ⟨r136,h137,h⟩:=h.1 hb_;refine rg (sw 214 (zd (O 0 J) J J) L fun a s L=>?_);refine sw 215 (zd (O 18 J) J J) L fun a s L=>sw 216 (zd (O 24 J) J J) L fun a s L=>sw 217 (zd (O 3 J) J J) L fun a s L=>sw 218 (zd (O 4 J) J J) L fun a s L=>zfb (L':=[(0,(Pd.prow En.cls 51 v0 r136))]) 219 (fun v0=>ih_ v0 h137) L (fun b h=>h) (O 214 J) (zs:=[.tmp 215,.tmp 216,.tmp 217,.tmp 218]) (.cons (O 215 J) (.cons (O 216 J) (.cons (O 217 J) (.cons (O 218 J) .nil)))) J J J J (.turn (t:=0) J .nil) fun a s L=>?_;refine en' ?_;subst h;exact retm J L (c:=0) J
       ·replace h:=h.2 hb_;refine wp_skip ?_;subst h;exact retm J L (c:=0) J
      refine cnd L J (fun hb_=>?_) (fun hb_=>?_)
      ·obtain ⟨r138,h139,h⟩:=h.1 hb_;refine rg (sw 200 (zd (O 0 J) J J) L fun a s L=>?_);refine sw 201 (zd (O 1 J) J J) L fun a s L=>sw 202 (zd (O 20 J) J J) L fun a s L=>sw 203 (zd (O 18 J) J J) L fun a s L=>sw 204 (zd (O 4 J) J J) L fun a s L=>zfb (L':=[(0,(Pd.prow En.cls 51 v0 r138)),(3,(Pi b_)),(4,(Pd.rep EnF211 cmp_)),(18,(Pi i104)),(24,(Pi ((i104+m_)-start117)))]) 205 (fun v0=>ih_ v0 h139) L (fun b h=>h) (O 200 J) (zs:=[.tmp 201,.tmp 202,.tmp 203,.tmp 204]) (.cons (O 201 J) (.cons (O 202 J) (.cons (O 203 J) (.cons (O 204 J) .nil)))) J J J J (.turn (t:=0) J (.k 3 (.k 4 (.k 18 (.k 24 .nil))))) fun a s L=>?_;refine en' ?_;exact J132 r138 a s (L.keep (.cons (t:=0) J (fun _ _ h_=>h_) (.k 3 (.k 4 (.k 18 (.k 24 .nil)))))) h
      ·replace h:=h.2 hb_;refine wp_skip ?_;exact J132 data125 a s (L.keep (.cons (t:=0) J (fun _ _ h_=>h_) (.k 3 (.k 4 (.k 18 (.k 24 .nil)))))) h
     refine cnd L J (fun hb_=>?_) (fun hb_=>?_)
     ·obtain ⟨r140,h141,h⟩:=h.1 hb_;refine rg (sw 186 (zd (O 0 J) J J) L fun a s L=>?_);refine sw 187 (zd (O 20 J) J J) L fun a s L=>sw 188 (zd (O 2 J) J J) L fun a s L=>sw 189 (zd (O 24 J) J J) L fun a s L=>sw 190 (zd (O 4 J) J J) L fun a s L=>zfb (L':=[(0,(Pd.prow En.cls 51 v0 r140)),(1,(Pi a_)),(3,(Pi b_)),(4,(Pd.rep EnF211 cmp_)),(18,(Pi i104)),(20,(Pi start117)),(24,(Pi ((i104+m_)-start117)))]) 191 (fun v0=>zfd v0 h141) L (fun b h=>h) (O 186 J) (zs:=[.tmp 187,.tmp 188,.tmp 189,.tmp 190]) (.cons (O 187 J) (.cons (O 188 J) (.cons (O 189 J) (.cons (O 190 J) .nil)))) J J J J (.turn (t:=0) J (.k 1 (.k 3 (.k 4 (.k 18 (.k 20 (.k 24 .nil))))))) fun a s L=>?_;refine en' ?_;exact J126 r140 a s (L.keep (.cons (t:=0) J (fun _ _ h_=>h_) (.k 1 (.k 3 (.k 4 (.k 18 (.k 20 (.k 24 .nil)))))))) h
     ·replace h:=h.2 hb_;refine wp_skip ?_;exact J126 data_ a s (L.keep (.cons (t:=0) J (fun _ _ h_=>h_) (.k 1 (.k 3 (.k 4 (.k 18 (.k 20 (.k 24 .nil)))))))) h
    obtain ⟨k144,h⟩:=h;refine lpg (fun k145 a s=>∃(start142:Int) (r143:Int),Has (fun b=>v0.ownBlock=some b) 220 s0 a s [(0,(Pd.prow En.cls 51 v0 data_)),(1,(Pi a_)),(2,(Pi m_)),(3,(Pi b_)),(4,(Pd.rep EnF211 cmp_)),(18,(Pi i104)),(19,(Pi (i104+m_))),(20,(Pi start142)),(21,(Pi r143)),(22,(Pi ((i104+m_)-1)))]∧za.l5 data_ m_ cmp_ i104 (za.j7 (za.n k_) data_ a_ m_ b_ cmp_ r_ i104) k145 start142 r143) k144 ⟨start111,r112,L.keep (.cons (t:=0) J (fun _ _ h_=>h_) (.k 1 (.k 2 (.k 3 (.k 4 (.k 18 (.k 19 (.k 20 (.k 21 (.k 22 .nil)))))))))),h⟩ ?_;rintro k145 a s ⟨start142,r143,L,h⟩ KL146 hKL146;cases k145 with
    | zero=>exact h.elim
    | succ k145=>
    unfold za.l5 at h;refine wp_seq_k fun K147 H147=>wp_seq_k fun K148 H148=>rg (sw 149 (zd (O 20 J) J J) L fun a s L=>?_);refine sw 150 (zd (O 21 J) J J) L fun a s L=>sw 151 (zbz (O 149 J) (O 150 J) J J) L fun a s L=>en' (H148 _ _ ?_);refine cnd L J (fun hb_=>?_) (fun hb_=>?_)
    ·replace h:=h.1 hb_;refine wp_skip ?_;show K147 a s.w;refine H147 _ _ (wp_block ?_);refine wp_seq_k fun K149 H149=>?_;obtain ⟨h150,i151,h152,h⟩:=h;refine rg (sw 152 (zd (O 20 J) J J) L fun a s L=>?_);refine sw 153 (zd (O 21 J) J J) L fun a s L=>sw 154 (zbk (O 152 J) (O 153 J) h150 J J) L fun a s L=>sw 155 (t_cvt (O 154 J) U3 U133 J J) L fun a s L=>sw 156 (t_shr (O 155 J) (o_i (k:=.u64) (by decide)) (by decide) J J) L fun a s L=>sw 157 (h152 ▸ (t_cvt (O 156 J) U133 U3 J J)) L fun a s L=>sw 23 (zb (O 157 J) J J) L fun a s L=>en' (H149 _ _ ?_);refine wp_seq_k fun K153 H153=>?_;obtain ⟨h154,e155,h156,e157,h158,r159,h160,h⟩:=h;refine rda zcm 14 [(Pd.rep EnF211 cmp_),(Pd.prow En.cls 51 v0 data_),(Pi ((i104+m_)-1)),(Pi i151),(Pi (((i104+m_)-1)-i151)),(Pd.optr En.cls 0 v0.ownBlock ((((i104+m_)-1)-i151:Int).toNat*En.cls.sz) e155),(Pd.rep En.cls e155),(Pd.prow En.cls 51 v0 data_),(Pi i151),(Pd.optr En.cls 0 v0.ownBlock ((i151:Int).toNat*En.cls.sz) e157),(Pd.rep En.cls e157),(Pi r159),(Pd.rep En.bool (decide (r159<0))),(Pd.rep En.bool (!(decide (r159<0))))] L (by kernel_rfl) J J ?_ ?_
     ·refine z8.cons (zd (O 4 J) J J) ?_;refine z8.cons (zd (O 0 J) J J) (z8.cons (zd (O 22 J) J J) ?_);refine z8.cons (zd (O 23 J) J J) (z8.cons (zdy (O 160 J) (O 161 J) h154 J J) ?_);refine z8.cons (zca (o_p (O 159 J)) (O 162 J) h156 U36 zco J J) (z8.cons (zp zco (O 163 J) J J) ?_);refine z8.cons (zd (O 0 J) J J) (z8.cons (zd (O 23 J) J J) ?_);refine z8.cons (zca (o_p (O 165 J)) (O 166 J) h158 U36 zco J J) (z8.cons (zp zco (O 167 J) J J) ?_);refine z8.cons (zfo (q:=(e155,e157,r159)) (O 158 J) h160 (xs:=[.tmp 164,.tmp 168]) (.cons (O 164 J) (.cons (O 168 J) .nil)) (fun _ _ _ h_=>h_) J J) (z8.cons (zbz (O 169 J) oI J J) ?_);refine z8.cons (zia (O 170 J) J J) ?_;exact z8.nil
     intro a s _ L;refine en' (H153 _ _ ?_);refine cnd L J (fun hb_=>?_) (fun hb_=>?_)
     ·obtain ⟨h161,h⟩:=h.1 hb_;refine rg (sw 172 (zd (O 23 J) J J) L fun a s L=>?_);refine sw 173 (zbk (O 172 J) oI h161 J J) L fun a s L=>sw 20 (zb (O 173 J) J J) L fun a s L=>en' ?_;exact hKL146 k145 a s (Nat.lt_succ_self _) ⟨(i151+1),r143,L.keep (.cons (t:=0) J (fun _ _ h_=>h_) (.k 1 (.k 2 (.k 3 (.k 4 (.k 18 (.k 19 (.k 20 (.k 21 (.k 22 .nil)))))))))),h⟩
     ·replace h:=h.2 hb_;refine rg (sw 174 (zd (O 23 J) J J) L fun a s L=>?_);refine sw 21 (zb (O 174 J) J J) L fun a s L=>en' ?_;exact hKL146 k145 a s (Nat.lt_succ_self _) ⟨start142,i151,L.keep (.cons (t:=0) J (fun _ _ h_=>h_) (.k 1 (.k 2 (.k 3 (.k 4 (.k 18 (.k 19 (.k 20 (.k 21 (.k 22 .nil)))))))))),h⟩
    ·replace h:=h.2 hb_;refine wp_exit ?_;exact J118 start142 a s (L.keep (.cons (t:=0) J (fun _ _ h_=>h_) (.k 1 (.k 2 (.k 3 (.k 4 (.k 18 (.k 19 (.k 20 .nil))))))))) h
   refine cnd L J (fun hb_=>?_) (fun hb_=>?_)
   ·replace h:=h.1 hb_;refine wp_seq_k fun K162 H162=>?_;obtain ⟨h163,h⟩:=h;refine rg (sw 141 (zd (O 19 J) J J) L fun a s L=>?_);refine sw 142 (zd (O 3 J) J J) L fun a s L=>sw 143 (zdy (O 141 J) (O 142 J) h163 J J) L fun a s L=>sw 20 (zb (O 143 J) J J) L fun a s L=>en' (H162 _ _ ?_);refine rg (sw 144 (zd (O 18 J) J J) L fun a s L=>?_);refine sw 21 (zb (O 144 J) J J) L fun a s L=>en' ?_;exact J113 ((i104+m_)-b_) i104 a s (L.keep (.cons (t:=0) J (fun _ _ h_=>h_) (.k 1 (.k 2 (.k 3 (.k 4 (.k 18 (.k 19 (.k 20 (.k 21 .nil)))))))))) h
   ·replace h:=h.2 hb_;refine wp_seq_k fun K164 H164=>rg (sw 145 (zd (O 1 J) J J) L fun a s L=>?_);refine sw 20 (zb (O 145 J) J J) L fun a s L=>en' (H164 _ _ ?_);refine rg (sw 146 (zd (O 2 J) J J) L fun a s L=>?_);refine sw 21 (zb (O 146 J) J J) L fun a s L=>en' ?_;exact J113 a_ m_ a s (L.keep (.cons (t:=0) J (fun _ _ h_=>h_) (.k 1 (.k 2 (.k 3 (.k 4 (.k 18 (.k 19 (.k 20 (.k 21 .nil)))))))))) h
theorem zdk (v0:Value) {data_:(List Cl)} {a_:Int} {m_:Int} {b_:Int} {cmp_:(Cl × Cl × Int→Prop)} {r_:(List Cl)} (h:za data_ a_ m_ b_ cmp_ r_):Fm Tryz.prog 186 (fun b=>v0.ownBlock=some b) [(Pd.prow En.cls 51 v0 data_),(Pi a_),(Pi m_),(Pi b_),(Pd.rep EnF211 cmp_)] (fun _ s' _=>(Pd.prow En.cls 51 v0 r_).p s' v0):=by
 obtain ⟨k_,h⟩:=h;exact za.n_ok k_ v0 h
set_option maxRecDepth 100000
theorem zfc (v0:Value) {data_:(List Cl)} {nv_:Int} {cmp_:(Cl × Cl × Int→Prop)} {r_:(List Cl)} (h:zf data_ nv_ cmp_ r_):Fm Tryz.prog 179 (fun b=>v0.ownBlock=some b) [(Pd.prow En.cls 51 v0 data_),(Pi nv_),(Pd.rep EnF211 cmp_)] (fun _ s' _=>(Pd.prow En.cls 51 v0 r_).p s' v0):=by
 unfold zf at h;refine zom Tryz.func179 J Tryz.ntmps179 (by rfl) (by simp) fun s0 a L=>?_;refine wp_seq_k fun K1 H1=>rg (sw 6 (zb oI J J) L fun a s L=>?_);refine en' (H1 _ _ ?_);refine wp_seq_k fun K2 H2=>rg (sw 10 (zd (O 6 J) J J) L fun a s L=>?_);refine sw 7 (zb oI J J) L fun a s L=>sw 8 (zb (O 10 J) J J) L fun a s L=>en' (H2 _ _ ?_);refine wp_seq_k fun K3 H3=>wp_block ?_;have J6:∀(data4:(List Cl)) (a5:Int) (a:Act) (s:St),Has (fun b=>v0.ownBlock=some b) 63 s0 a s [(0,(Pd.prow En.cls 51 v0 data4)),(1,(Pi nv_)),(2,(Pd.rep EnF211 cmp_)),(6,(Pi 20)),(7,(Pi a5))]→((zf.j3 nv_ cmp_ r_) data4 a5)→K3 a s.w:=by
  intro data4 a5 a s L h;unfold zf.j3 at h;show K3 a s.w;refine H3 _ _ (wp_seq_k fun K7 H7=>?_);obtain ⟨r8,h9,h⟩:=h;refine rg (sw 23 (zd (O 0 J) J J) L fun a s L=>?_);refine sw 24 (zd (O 7 J) J J) L fun a s L=>sw 25 (zd (O 1 J) J J) L fun a s L=>sw 26 (zd (O 2 J) J J) L fun a s L=>zfb (L':=[(0,(Pd.prow En.cls 51 v0 r8)),(1,(Pi nv_)),(2,(Pd.rep EnF211 cmp_)),(6,(Pi 20))]) 27 (fun v0=>zcz v0 h9) L (fun b h=>h) (O 23 J) (zs:=[.tmp 24,.tmp 25,.tmp 26]) (.cons (O 24 J) (.cons (O 25 J) (.cons (O 26 J) .nil))) J J J J (.turn (t:=0) J (.k 1 (.k 2 (.k 6 .nil)))) fun a s L=>?_;refine en' (H7 _ _ ?_);refine wp_block ?_;have J11:∀(data10:(List Cl)) (a:Act) (s:St),Has (fun b=>v0.ownBlock=some b) 63 s0 a s [(0,(Pd.prow En.cls 51 v0 data10))]→((zf.j1 r_) data10)→(bodyPost Tryz.prog Tryz.f179 (Pst (fun b=>v0.ownBlock=some b) (fun _ s' _=>(Pd.prow En.cls 51 v0 r_).p s' v0) s0) .normal) a s.w:=by
   intro data10 a s L h;unfold zf.j1 at h;subst h;exact retm J L (c:=0) J
  obtain ⟨k14,h⟩:=h;refine lpg (fun k15 a s=>∃(data12:(List Cl)) (blockSize13:Int),Has (fun b=>v0.ownBlock=some b) 63 s0 a s [(0,(Pd.prow En.cls 51 v0 data12)),(1,(Pi nv_)),(2,(Pd.rep EnF211 cmp_)),(6,(Pi blockSize13))]∧zf.l1 nv_ cmp_ (zf.j1 r_) k15 data12 blockSize13) k14 ⟨r8,20,L.keep (.cons (t:=0) J (fun _ _ h_=>h_) (.k 1 (.k 2 (.k 6 .nil)))),h⟩ ?_;rintro k15 a s ⟨data12,blockSize13,L,h⟩ KL16 hKL16;cases k15 with
  | zero=>exact h.elim
  | succ k15=>
  unfold zf.l1 at h;refine wp_seq_k fun K17 H17=>wp_seq_k fun K18 H18=>rg (sw 28 (zd (O 6 J) J J) L fun a s L=>?_);refine sw 29 (zd (O 1 J) J J) L fun a s L=>sw 30 (zbz (O 28 J) (O 29 J) J J) L fun a s L=>en' (H18 _ _ ?_);refine cnd L J (fun hb_=>?_) (fun hb_=>?_)
  ·replace h:=h.1 hb_;refine wp_skip ?_;show K17 a s.w;refine H17 _ _ (wp_block ?_);refine wp_seq_k fun K19 H19=>?_;obtain ⟨h20,h⟩:=h;refine rg (sw 31 (zd (O 6 J) J J) L fun a s L=>?_);refine sw 32 (zk3 oI (O 31 J) h20 J J) L fun a s L=>sw 7 (zb oI J J) L fun a s L=>sw 8 (zb (O 32 J) J J) L fun a s L=>en' (H19 _ _ ?_);refine wp_seq_k fun K21 H21=>wp_block ?_;have J24:∀(data22:(List Cl)) (a23:Int) (a:Act) (s:St),Has (fun b=>v0.ownBlock=some b) 63 s0 a s [(0,(Pd.prow En.cls 51 v0 data22)),(1,(Pi nv_)),(2,(Pd.rep EnF211 cmp_)),(6,(Pi blockSize13)),(7,(Pi a23))]→((zf.j2 (zf.l1 nv_ cmp_ (zf.j1 r_) k15) nv_ cmp_ blockSize13) data22 a23)→K21 a s.w:=by
    intro data22 a23 a s L h;unfold zf.j2 at h;show K21 a s.w;refine H21 _ _ (wp_seq_k fun K25 H25=>?_);refine wp_seq_k fun K26 H26=>?_;obtain ⟨h27,h⟩:=h;refine rg (sw 49 (zd (O 7 J) J J) L fun a s L=>?_);refine sw 50 (zd (O 6 J) J J) L fun a s L=>sw 51 (zbk (O 49 J) (O 50 J) h27 J J) L fun a s L=>sw 9 (zb (O 51 J) J J) L fun a s L=>en' (H26 _ _ ?_);refine wp_seq_k fun K28 H28=>rg (sw 52 (zd (O 9 J) J J) L fun a s L=>?_);refine sw 53 (zd (O 1 J) J J) L fun a s L=>sw 54 (zbz (O 52 J) (O 53 J) J J) L fun a s L=>en' (H28 _ _ ?_);refine cnd L J (fun hb_=>?_) (fun hb_=>?_)
    ·obtain ⟨r29,h30,h⟩:=h.1 hb_;refine rg (sw 55 (zd (O 0 J) J J) L fun a s L=>?_);refine sw 56 (zd (O 7 J) J J) L fun a s L=>sw 57 (zd (O 9 J) J J) L fun a s L=>sw 58 (zd (O 1 J) J J) L fun a s L=>sw 59 (zd (O 2 J) J J) L fun a s L=>zfb (L':=[(0,(Pd.prow En.cls 51 v0 r29)),(1,(Pi nv_)),(2,(Pd.rep EnF211 cmp_)),(6,(Pi blockSize13))]) 60 (fun v0=>zdk v0 h30) L (fun b h=>h) (O 55 J) (zs:=[.tmp 56,.tmp 57,.tmp 58,.tmp 59]) (.cons (O 56 J) (.cons (O 57 J) (.cons (O 58 J) (.cons (O 59 J) .nil)))) J J J J (.turn (t:=0) J (.k 1 (.k 2 (.k 6 .nil)))) fun a s L=>?_;refine en' (H25 _ _ ?_);obtain ⟨h31,h⟩:=h;refine rg (sw 61 (zd (O 6 J) J J) L fun a s L=>?_);refine sw 62 (zk3 (O 61 J) oI h31 J J) L fun a s L=>sw 6 (zb (O 62 J) J J) L fun a s L=>en' ?_;exact hKL16 k15 a s (Nat.lt_succ_self _) ⟨r29,(blockSize13*2),L.keep (.cons (t:=0) J (fun _ _ h_=>h_) (.k 1 (.k 2 (.k 6 .nil)))),h⟩
    ·replace h:=h.2 hb_;refine wp_skip ?_;show K25 a s.w;refine H25 _ _ ?_;obtain ⟨h32,h⟩:=h;refine rg (sw 61 (zd (O 6 J) J J) L fun a s L=>?_);refine sw 62 (zk3 (O 61 J) oI h32 J J) L fun a s L=>sw 6 (zb (O 62 J) J J) L fun a s L=>en' ?_;exact hKL16 k15 a s (Nat.lt_succ_self _) ⟨data22,(blockSize13*2),L.keep (.cons (t:=0) J (fun _ _ h_=>h_) (.k 1 (.k 2 (.k 6 .nil)))),h⟩
   obtain ⟨k36,h⟩:=h;refine lpg (fun k37 a s=>∃(data33:(List Cl)) (a34:Int) (b35:Int),Has (fun b=>v0.ownBlock=some b) 63 s0 a s [(0,(Pd.prow En.cls 51 v0 data33)),(1,(Pi nv_)),(2,(Pd.rep EnF211 cmp_)),(6,(Pi blockSize13)),(7,(Pi a34)),(8,(Pi b35))]∧zf.l2 nv_ cmp_ blockSize13 (zf.j2 (zf.l1 nv_ cmp_ (zf.j1 r_) k15) nv_ cmp_ blockSize13) k37 data33 a34 b35) k36 ⟨data12,0,(2*blockSize13),L.keep (.cons (t:=0) J (fun _ _ h_=>h_) (.k 1 (.k 2 (.k 6 (.k 7 (.k 8 .nil)))))),h⟩ ?_;rintro k37 a s ⟨data33,a34,b35,L,h⟩ KL38 hKL38;cases k37 with
   | zero=>exact h.elim
   | succ k37=>
   unfold zf.l2 at h;refine wp_seq_k fun K39 H39=>wp_seq_k fun K40 H40=>rg (sw 33 (zd (O 8 J) J J) L fun a s L=>?_);refine sw 34 (zd (O 1 J) J J) L fun a s L=>sw 35 (zji (O 33 J) (O 34 J) J J) L fun a s L=>en' (H40 _ _ ?_);refine cnd L J (fun hb_=>?_) (fun hb_=>?_)
   ·replace h:=h.1 hb_;refine wp_skip ?_;show K39 a s.w;refine H39 _ _ (wp_block ?_);refine wp_seq_k fun K41 H41=>?_;obtain ⟨h42,r43,h44,h⟩:=h;refine rg (sw 36 (zd (O 0 J) J J) L fun a s L=>?_);refine sw 37 (zd (O 7 J) J J) L fun a s L=>sw 38 (zd (O 7 J) J J) L fun a s L=>sw 39 (zd (O 6 J) J J) L fun a s L=>sw 40 (zbk (O 38 J) (O 39 J) h42 J J) L fun a s L=>sw 41 (zd (O 8 J) J J) L fun a s L=>sw 42 (zd (O 2 J) J J) L fun a s L=>zfb (L':=[(0,(Pd.prow En.cls 51 v0 r43)),(1,(Pi nv_)),(2,(Pd.rep EnF211 cmp_)),(6,(Pi blockSize13)),(8,(Pi b35))]) 43 (fun v0=>zdk v0 h44) L (fun b h=>h) (O 36 J) (zs:=[.tmp 37,.tmp 40,.tmp 41,.tmp 42]) (.cons (O 37 J) (.cons (O 40 J) (.cons (O 41 J) (.cons (O 42 J) .nil)))) J J J J (.turn (t:=0) J (.k 1 (.k 2 (.k 6 (.k 8 .nil))))) fun a s L=>?_;refine en' (H41 _ _ ?_);refine wp_seq_k fun K45 H45=>rg (sw 44 (zd (O 8 J) J J) L fun a s L=>?_);refine sw 7 (zb (O 44 J) J J) L fun a s L=>en' (H45 _ _ ?_);obtain ⟨h46,h47,h⟩:=h;refine rg (sw 45 (zd (O 8 J) J J) L fun a s L=>?_);refine sw 46 (zd (O 6 J) J J) L fun a s L=>sw 47 (zk3 oI (O 46 J) h46 J J) L fun a s L=>sw 48 (zbk (O 45 J) (O 47 J) h47 J J) L fun a s L=>sw 8 (zb (O 48 J) J J) L fun a s L=>en' ?_;exact hKL38 k37 a s (Nat.lt_succ_self _) ⟨r43,b35,(b35+(2*blockSize13)),L.keep (.cons (t:=0) J (fun _ _ h_=>h_) (.k 1 (.k 2 (.k 6 (.k 7 (.k 8 .nil)))))),h⟩
   ·replace h:=h.2 hb_;refine wp_exit ?_;exact J24 data33 a34 a s (L.keep (.cons (t:=0) J (fun _ _ h_=>h_) (.k 1 (.k 2 (.k 6 (.k 7 .nil)))))) h
  ·replace h:=h.2 hb_;refine wp_exit ?_;exact J11 data12 a s (L.keep (.cons (t:=0) J (fun _ _ h_=>h_) .nil)) h
 obtain ⟨k51,h⟩:=h;refine lpg (fun k52 a s=>∃(data48:(List Cl)) (a49:Int) (b50:Int),Has (fun b=>v0.ownBlock=some b) 63 s0 a s [(0,(Pd.prow En.cls 51 v0 data48)),(1,(Pi nv_)),(2,(Pd.rep EnF211 cmp_)),(6,(Pi 20)),(7,(Pi a49)),(8,(Pi b50))]∧zf.l3 nv_ cmp_ (zf.j3 nv_ cmp_ r_) k52 data48 a49 b50) k51 ⟨data_,0,20,L.keep (.cons (t:=0) J (fun _ _ h_=>h_) (.k 1 (.k 2 (.k 6 (.k 7 (.k 8 .nil)))))),h⟩ ?_;rintro k52 a s ⟨data48,a49,b50,L,h⟩ KL53 hKL53;cases k52 with
 | zero=>exact h.elim
 | succ k52=>
 unfold zf.l3 at h;refine wp_seq_k fun K54 H54=>wp_seq_k fun K55 H55=>rg (sw 11 (zd (O 8 J) J J) L fun a s L=>?_);refine sw 12 (zd (O 1 J) J J) L fun a s L=>sw 13 (zji (O 11 J) (O 12 J) J J) L fun a s L=>en' (H55 _ _ ?_);refine cnd L J (fun hb_=>?_) (fun hb_=>?_)
 ·replace h:=h.1 hb_;refine wp_skip ?_;show K54 a s.w;refine H54 _ _ (wp_block ?_);refine wp_seq_k fun K56 H56=>?_;obtain ⟨r57,h58,h⟩:=h;refine rg (sw 14 (zd (O 0 J) J J) L fun a s L=>?_);refine sw 15 (zd (O 7 J) J J) L fun a s L=>sw 16 (zd (O 8 J) J J) L fun a s L=>sw 17 (zd (O 2 J) J J) L fun a s L=>zfb (L':=[(0,(Pd.prow En.cls 51 v0 r57)),(1,(Pi nv_)),(2,(Pd.rep EnF211 cmp_)),(6,(Pi 20)),(8,(Pi b50))]) 18 (fun v0=>zcz v0 h58) L (fun b h=>h) (O 14 J) (zs:=[.tmp 15,.tmp 16,.tmp 17]) (.cons (O 15 J) (.cons (O 16 J) (.cons (O 17 J) .nil))) J J J J (.turn (t:=0) J (.k 1 (.k 2 (.k 6 (.k 8 .nil))))) fun a s L=>?_;refine en' (H56 _ _ ?_);refine wp_seq_k fun K59 H59=>rg (sw 19 (zd (O 8 J) J J) L fun a s L=>?_);refine sw 7 (zb (O 19 J) J J) L fun a s L=>en' (H59 _ _ ?_);obtain ⟨h60,h⟩:=h;refine rg (sw 20 (zd (O 8 J) J J) L fun a s L=>?_);refine sw 21 (zd (O 6 J) J J) L fun a s L=>sw 22 (zbk (O 20 J) (O 21 J) h60 J J) L fun a s L=>sw 8 (zb (O 22 J) J J) L fun a s L=>en' ?_;exact hKL53 k52 a s (Nat.lt_succ_self _) ⟨r57,b50,(b50+20),L.keep (.cons (t:=0) J (fun _ _ h_=>h_) (.k 1 (.k 2 (.k 6 (.k 7 (.k 8 .nil)))))),h⟩
 ·replace h:=h.2 hb_;refine wp_exit ?_;exact J6 data48 a49 a s (L.keep (.cons (t:=0) J (fun _ _ h_=>h_) (.k 1 (.k 2 (.k 6 (.k 7 .nil)))))) h
theorem zdz (v0:Value) {x_:(List Cl)} {cmp_:(Cl × Cl × Int→Prop)} {r_:(List Cl)} (h:zbn x_ cmp_ r_):Fm Tryz.prog 166 (fun b=>v0.ownBlock=some b) [(Pd.prow En.cls 51 v0 x_),(Pd.rep EnF211 cmp_)] (fun _ s' _=>(Pd.prow En.cls 51 v0 r_).p s' v0):=by
 unfold zbn at h;refine zom Tryz.func166 J Tryz.ntmps166 (by rfl) (by simp) fun s0 a L=>?_;obtain ⟨r1,h2,h⟩:=h;refine rg (sw 4 (zd (O 0 J) J J) L fun a s L=>?_);refine sw 5 (zd (O 0 J) J J) L fun a s L=>sw 6 (zjl (o_p (O 5 J)) U36 J J) L fun a s L=>sw 7 (zd (O 1 J) J J) L fun a s L=>zfb (L':=[(0,(Pd.prow En.cls 51 v0 r1))]) 8 (fun v0=>zfc v0 h2) L (fun b h=>h) (O 4 J) (zs:=[.tmp 6,.tmp 7]) (.cons (O 6 J) (.cons (O 7 J) .nil)) J J J J (.turn (t:=0) J .nil) fun a s L=>?_;refine en' ?_;subst h;exact retm J L (c:=0) J
theorem zgh (v0:Value) {s_:(List Int)} {r_:(List Int)} (h:z7 s_ r_):Fm Tryz.prog 140 (fun b=>v0.ownBlock=some b) [(Pd.prow (En.int .u8) 5 v0 s_)] (fun _ s' _=>(Pd.prow (En.int .u8) 5 v0 r_).p s' v0):=by
 unfold z7 at h;refine zom Tryz.func140 J Tryz.ntmps140 (by rfl) (by simp) fun s0 a L=>?_;refine wp_seq_k fun K1 H1=>?_;obtain ⟨h2,h⟩:=h;refine rg (sw 4 (zd (O 0 J) J J) L fun a s L=>?_);refine sw 5 (zjl (o_p (O 4 J)) U26 J J) L fun a s L=>sw 6 (zdy (O 5 J) oI h2 J J) L fun a s L=>sw 2 (zb oI J J) L fun a s L=>sw 3 (zb (O 6 J) J J) L fun a s L=>en' (H1 _ _ ?_);refine wp_block ?_;have J4:∀(s3:(List Int)) (a:Act) (s:St),Has (fun b=>v0.ownBlock=some b) 28 s0 a s [(0,(Pd.prow (En.int .u8) 5 v0 s3))]→((z7.j1 r_) s3)→(bodyPost Tryz.prog Tryz.f140 (Pst (fun b=>v0.ownBlock=some b) (fun _ s' _=>(Pd.prow (En.int .u8) 5 v0 r_).p s' v0) s0) .normal) a s.w:=by
  intro s3 a s L h;unfold z7.j1 at h;subst h;exact retm J L (c:=0) J
 obtain ⟨k8,h⟩:=h;refine lpg (fun k9 a s=>∃(s5:(List Int)) (i6:Int) (j7:Int),Has (fun b=>v0.ownBlock=some b) 28 s0 a s [(0,(Pd.prow (En.int .u8) 5 v0 s5)),(2,(Pi i6)),(3,(Pi j7))]∧z7.l1 (z7.j1 r_) k9 s5 i6 j7) k8 ⟨s_,0,((s_.length:Int)-1),L.keep (.cons (t:=0) J (fun _ _ h_=>h_) (.k 2 (.k 3 .nil))),h⟩ ?_;rintro k9 a s ⟨s5,i6,j7,L,h⟩ KL10 hKL10;cases k9 with
 | zero=>exact h.elim
 | succ k9=>
 unfold z7.l1 at h;refine wp_seq_k fun K11 H11=>wp_seq_k fun K12 H12=>rg (sw 7 (zd (O 2 J) J J) L fun a s L=>?_);refine sw 8 (zd (O 3 J) J J) L fun a s L=>sw 9 (zbz (O 7 J) (O 8 J) J J) L fun a s L=>en' (H12 _ _ ?_);refine cnd L J (fun hb_=>?_) (fun hb_=>?_)
 ·replace h:=h.1 hb_;refine wp_skip ?_;show K11 a s.w;refine H11 _ _ (wp_seq_k fun K13 H13=>?_);refine wp_block ?_;obtain ⟨e14,h15,e16,h17,e18,h19,e20,h21,h⟩:=h;refine rdf 16 zcm L (by kernel_rfl) fun s _ L=>?_;refine zek 2 16 L (by rfl) (by kernel_rfl) (by kernel_rfl) (by kernel_rfl) (fun _ _ _ _ h=>h) (q:=(Pd.prow (En.int .u8) 5 v0 s5)) (zh4 (O 0 J) J J) J J fun a L=>?_;refine zek 3 17 L (by rfl) (by kernel_rfl) (by kernel_rfl) (by kernel_rfl) (fun _ _ _ _ h=>h) (q:=(Pi j7)) (zh4 (O 3 J) J J) J J fun a L=>?_;refine fl_go 13 [(Pd.prow (En.int .u8) 5 v0 s5),(Pi i6),(Pd.prow (En.int .u8) 5 v0 s5),(Pi j7),(Pd.prow (En.int .u8) 5 v0 s5),(Pi j7),(Pd.optr (En.int .u8) 0 v0.ownBlock ((j7:Int).toNat*(En.int .u8).sz) e14),(Pd.rep (En.int .u8) e14),(Pd.prow (En.int .u8) 5 v0 s5),(Pi i6),(Pd.optr (En.int .u8) 0 v0.ownBlock ((i6:Int).toNat*(En.int .u8).sz) e16),(Pd.rep (En.int .u8) e16),(Pd.optr (En.int .u8) 0 v0.ownBlock ((i6:Int).toNat*(En.int .u8).sz) e18)] [2,3] L (by kernel_rfl) (by kernel_rfl) (by kernel_rfl) (.cons (i:=2) J J J J (.cons (i:=3) J J J J .nil)) J J ?_ ?_
  ·refine zdi.cons (zd (O 0 J) J J) ?_;refine zdi.cons (zd (O 2 J) J J) (zdi.skip J ?_);refine zdi.skip J (zdi.cons (zd (O 0 J) J J) ?_);refine zdi.cons (zd (O 3 J) J J) (zdi.cons (zca (o_p (O 18 J)) (O 19 J) h15 U26 ty5 J J) ?_);refine zdi.cons (zp ty5 (O 20 J) J J) (zdi.cons (zd (O 0 J) J J) ?_);refine zdi.cons (zd (O 2 J) J J) (zdi.cons (zca (o_p (O 22 J)) (O 23 J) h17 U26 ty5 J J) ?_);refine zdi.cons (zp ty5 (O 24 J) J J) (zdi.cons (zca (o_p (O 14 J)) (O 15 J) h19 U26 ty5 J J) ?_);exact zdi.nil
  intro a s _ L;refine zfw (L':=[(0,(Pd.prow (En.int .u8) 5 v0 (s5.set (i6:Int).toNat e14))),(2,(Pi i6)),(3,(Pi j7)),(16,(Pd.prow (En.int .u8) 5 v0 (s5.set (i6:Int).toNat e14))),(17,(Pi j7)),(25,(Pd.rep (En.int .u8) e16))]) (off:=0) 0 (fun b h=>h) L J h19 (O 26 J) (O 21 J) (zz _ _ _) ty5 J J J (.turn (t:=0) J (.k 2 (.k 3 (.turn (t:=16) J (.k 17 (.k 25 .nil)))))) fun s L=>?_;refine sw 27 (zca (o_p (O 16 J)) (O 17 J) h21 U26 ty5 J J) L fun a s L=>zfw (L':=[(0,(Pd.prow (En.int .u8) 5 v0 ((s5.set (i6:Int).toNat e14).set (j7:Int).toNat e16))),(2,(Pi i6)),(3,(Pi j7))]) (off:=0) 0 (fun b h=>h) L J h21 (O 27 J) (O 25 J) (zz _ _ _) ty5 J J J (.turn (t:=0) J (.k 2 (.k 3 .nil))) fun s L=>?_;refine en' (H13 _ _ ?_);obtain ⟨h22,h23,h⟩:=h;refine rg (sw 10 (zd (O 2 J) J J) L fun a s L=>?_);refine sw 11 (zbk (O 10 J) oI h22 J J) L fun a s L=>sw 12 (zd (O 3 J) J J) L fun a s L=>sw 13 (zdy (O 12 J) oI h23 J J) L fun a s L=>sw 2 (zb (O 11 J) J J) L fun a s L=>sw 3 (zb (O 13 J) J J) L fun a s L=>en' ?_;exact hKL10 k9 a s (Nat.lt_succ_self _) ⟨((s5.set (i6:Int).toNat e14).set (j7:Int).toNat e16),(i6+1),(j7-1),L.keep (.cons (t:=0) J (fun _ _ h_=>h_) (.k 2 (.k 3 .nil))),h⟩
 ·replace h:=h.2 hb_;refine wp_exit ?_;exact J4 s5 a s (L.keep (.cons (t:=0) J (fun _ _ h_=>h_) .nil)) h
def zf4 (a_:Cl) (cv_:Int) (r_:Bool):Prop:=(0≤(cv_ / 64)∧(cv_ / 64)<4)∧∃b4:Bool,b4=((andI (shrI (Cl.w a_ (cv_ / 64)) (cv_ % 64)) 1)==1)∧r_=b4
def zbv.j1 (r_:Cl) (a8:Cl):Prop:=r_=a8
def zbv.j2 (L1_:Cl→Int→Prop) (w13:Int) (a23:Cl):Prop:=(InR .i64 (w13+1))∧L1_ a23 (w13+1)
def zbv.l2 (l_:(List Bool)) (w13:Int) (X2:Cl→Prop):Nat→Cl→Int→Int→Prop
 | 0,_,_,_=>False
 | k_0+1,a27,bit28,i29=>((decide (i29<64))=true→(InR .i64 (64*w13))∧(InR .i64 ((64*w13)+i29))∧∃e41:Bool,at? l_ ((64*w13)+i29)=some e41∧((e41)=true→(0≤w13∧w13<4)∧(0≤w13∧w13<4)∧(InR .i64 (i29+1))∧zbv.l2 l_ w13 X2 k_0 (Cl.setw a27 w13 (IntKind.wrap .u64 ((Cl.w a27 w13)+bit28))) (IntKind.wrap .u64 (bit28*2)) (i29+1))∧((e41)=false→(InR .i64 (i29+1))∧zbv.l2 l_ w13 X2 k_0 a27 (IntKind.wrap .u64 (bit28*2)) (i29+1)))∧((decide (i29<64))=false→X2 a27)
def zbv.l1 (l_:(List Bool)) (X1:Cl→Prop):Nat→Cl→Int→Prop
 | 0,_,_=>False
 | k_0+1,a12,w13=>((decide (w13<4))=true→∃k30,zbv.l2 l_ w13 (zbv.j2 (zbv.l1 l_ X1 k_0) w13) k30 a12 1 0)∧((decide (w13<4))=false→X1 a12)
def zbv (l_:(List Bool)) (r_:Cl):Prop:=∃k14,zbv.l1 l_ (zbv.j1 r_) k14 (0#256) 0
def zc3.j1 (r_:Cl) (l8:(List Bool)):Prop:=∃r15:Cl,zbv l8 r15∧r_=r15
def zc3.l1 (to_:Int) (X1:(List Bool)→Prop):Nat→(List Bool)→Int→Prop
 | 0,_,_=>False
 | k_0+1,l17,i19=>((decide (i19≤to_))=true→∃e27:Bool,at? l17 i19=some e27∧(InR .i64 (i19+1))∧zc3.l1 to_ X1 k_0 (l17.set (i19:Int).toNat true) (i19+1))∧((decide (i19≤to_))=false→X1 l17)
def zc3 (from_:Int) (to_:Int) (r_:Cl):Prop:=∃k20,zc3.l1 to_ (zc3.j1 r_) k20 (List.replicate 256 false) from_
def zdd.j1 (r_:Cl) (a7:Cl):Prop:=r_=a7
def zdd.l1 (list_:(List Int)) (X1:Cl→Prop):Nat→Cl→Int→Prop
 | 0,_,_=>False
 | k_0+1,a11,v12=>((decide (v12<(list_.length:Int)))=true→∃e21:Int,at? list_ v12=some e21∧(0≤(e21 / 64)∧(e21 / 64)<4)∧(0≤(e21 / 64)∧(e21 / 64)<4)∧(InR .i64 (v12+1))∧zdd.l1 list_ X1 k_0 (Cl.setw a11 (e21 / 64) (orI (Cl.w a11 (e21 / 64)) (shlI 1 (e21 % 64)))) (v12+1))∧((decide (v12<(list_.length:Int)))=false→X1 a11)
def zdd (a_:Cl) (list_:(List Int)) (r_:Cl):Prop:=∃k13,zdd.l1 list_ (zdd.j1 r_) k13 a_ 0
def zdt.j1 (r_:Cl) (a8:Cl):Prop:=r_=a8
def zdt.l1 (from_:Int) (to_:Int) (X1:Cl→Prop):Nat→Cl→Int→Prop
 | 0,_,_=>False
 | k_0+1,a12,v13=>((decide (v13<256))=true→∃b24:Bool,b24=((decide (from_≤v13 % 256))&&(decide (v13 % 256≤to_)))∧((b24)=true→∃r26:Cl,zdd a12 [v13 % 256] r26∧(InR .i64 (v13+1))∧zdt.l1 from_ to_ X1 k_0 r26 (v13+1))∧((b24)=false→(InR .i64 (v13+1))∧zdt.l1 from_ to_ X1 k_0 a12 (v13+1)))∧((decide (v13<256))=false→X1 a12)
def zdt (from_:Int) (to_:Int) (r_:Cl):Prop:=∃k14,zdt.l1 from_ to_ (zdt.j1 r_) k14 (0#256) 0
def zdc.j1 (r_:Cl) (a7:Cl):Prop:=r_=a7
def zdc.l1 (X1:Cl→Prop):Nat→Cl→Int→Prop
 | 0,_,_=>False
 | k_0+1,a11,v12=>((decide (v12<4))=true→(0≤v12∧v12<4)∧(0≤v12∧v12<4)∧(InR .i64 (v12+1))∧zdc.l1 X1 k_0 (Cl.setw a11 v12 (xorI 18446744073709551615 (Cl.w a11 v12))) (v12+1))∧((decide (v12<4))=false→X1 a11)
def zdc (a_:Cl) (r_:Cl):Prop:=∃k13,zdc.l1 (zdc.j1 r_) k13 a_ 0
def zct.j1 (r_:Cl) (a7:Cl):Prop:=r_=a7
def zct.l1 (b_:Cl) (X1:Cl→Prop):Nat→Cl→Int→Prop
 | 0,_,_=>False
 | k_0+1,a11,v12=>((decide (v12<4))=true→(0≤v12∧v12<4)∧(0≤v12∧v12<4)∧(0≤v12∧v12<4)∧(InR .i64 (v12+1))∧zct.l1 b_ X1 k_0 (Cl.setw a11 v12 (andI (Cl.w a11 v12) (Cl.w b_ v12))) (v12+1))∧((decide (v12<4))=false→X1 a11)
def zct (a_:Cl) (b_:Cl) (r_:Cl):Prop:=∃k13,zct.l1 b_ (zct.j1 r_) k13 a_ 0
def zcd.j1 (r_:Int) (n5:Int):Prop:=r_=n5
def zcd.l1 (a_:Cl) (X1:Int→Prop):Nat→Int→Int→Prop
 | 0,_,_=>False
 | k_0+1,n8,v9=>((decide (v9<256))=true→∃r18:Bool,zf4 a_ (v9 % 256) r18∧((r18)=true→(InR .i64 (n8+1))∧(InR .i64 (v9+1))∧zcd.l1 a_ X1 k_0 (n8+1) (v9+1))∧((r18)=false→(InR .i64 (v9+1))∧zcd.l1 a_ X1 k_0 n8 (v9+1)))∧((decide (v9<256))=false→X1 n8)
def zcd (a_:Cl) (r_:Int):Prop:=∃k10,zcd.l1 a_ (zcd.j1 r_) k10 0 0
def zb8.j1 (r_:(Int × Bool)):Prop:=r_=(0,false)
def zb8.l1 (a_:Cl) (r_:(Int × Bool)) (X1:Prop):Nat→Int→Prop
 | 0,_=>False
 | k_0+1,v6=>((decide (v6<256))=true→∃r15:Bool,zf4 a_ (v6 % 256) r15∧((r15)=true→r_=(v6 % 256,true))∧((r15)=false→(InR .i64 (v6+1))∧zb8.l1 a_ r_ X1 k_0 (v6+1)))∧((decide (v6<256))=false→X1)
def zb8 (a_:Cl) (r_:(Int × Bool)):Prop:=∃k7,zb8.l1 a_ r_ (zb8.j1 r_) k7 0
def zfg.j1 (r_:Bool) (w7:Int):Prop:=r_=((w7 % 2)==1)
def zfg.l1 (cv_:Int) (X1:Int→Prop):Nat→Int→Int→Prop
 | 0,_,_=>False
 | k_0+1,w10,i11=>(0≤cv_)∧((decide (i11<cv_ % 64))=true→(InR .i64 (i11+1))∧zfg.l1 cv_ X1 k_0 (w10 / 2) (i11+1))∧((decide (i11<cv_ % 64))=false→X1 w10)
def zfg (a_:Cl) (cv_:Int) (r_:Bool):Prop:=(0≤cv_)∧(0≤(cv_ / 64)∧(cv_ / 64)<4)∧∃k12,zfg.l1 cv_ (zfg.j1 r_) k12 (Cl.w a_ (cv_ / 64)) 0
set_option maxRecDepth 100000
theorem zit {a_:Cl} {cv_:Int} {r_:Bool} (h:zf4 a_ cv_ r_):Fn Tryz.prog 137 [(Pd.rep En.cls a_),(Pd.rep (En.int .u8) cv_)] (Rq (Pd.rep En.bool r_)):=by
 unfold zf4 at h;refine zbx Tryz.func137 J Tryz.ntmps137 (by rfl) (by simp) fun s0 a L=>?_;refine wp_seq_k fun K1 H1=>rg (sw 2 (zcu (O 0 J) J J) L fun a s L=>?_);refine sw 4 (zb o_b J J) L fun a s L=>en' (H1 _ _ ?_);refine wp_seq_k fun K2 H2=>?_;obtain ⟨h3,b4,h5,h⟩:=h;refine rg (sw 5 (zd (O 1 J) J J) L fun a s L=>?_);refine sw 6 (t_quou (O 5 J) (o_i (k:=.u8) (by decide)) (by decide) (by decide) J J) L fun a s L=>sw 7 (t_idxc (O 2 J) (O 6 J) h3 U51 (by rfl) J J) L fun a s L=>sw 8 (zt ty49 (O 7 J) J J) L fun a s L=>sw 9 (zd (O 1 J) J J) L fun a s L=>sw 10 (t_remu (O 9 J) (o_i (k:=.u8) (by decide)) (by decide) (by decide) J J) L fun a s L=>sw 11 (t_shr (O 8 J) (O 10 J) (by decide) J J) L fun a s L=>sw 12 (t_andb (O 11 J) (o_i (k:=.u64) (by decide)) J J) L fun a s L=>sw 13 (h5 ▸ (zbt (O 12 J) (o_i (k:=.u64) (by decide)) J J)) L fun a s L=>sw 4 (zb (O 13 J) J J) L fun a s L=>?_;refine en' (H2 _ _ ?_);subst h;exact wp_ret (zdu J L J)
theorem ref01_Of_ok {l_:(List Bool)} {r_:Cl} (h:zbv l_ r_):Fn Tryz.prog 83 [(Pd.rep (En.slice En.bool) l_)] (Rq (Pd.rep En.cls r_)):=by
 unfold zbv at h;refine zbx Tryz.func83 J Tryz.ntmps83 (by rfl) (by simp) fun s0 a L=>?_;refine wp_seq_k fun K1 H1=>rg (zbf En.cls (z:=(0#256)) 2 L zj4 J J J J fun a s g2 hg_ L=>?_);refine en' (H1 _ _ ?_);refine wp_seq_k fun K3 H3=>rg ?_;have lt_d5:=L.blt 2 rfl;refine zbf En.cls (z:=(0#256)) 3 L zj4 J J J J fun a s g4 hg_ L=>?_;have d5:Dis (some g4) (some g2):=Dis.newg hg_ lt_d5;refine en' (H3 _ _ ?_);refine wp_seq_k fun K6 H6=>wp_seq_k fun K7 H7=>rg (sw 4 (zb oI J J) L fun a s L=>?_);refine en' (H7 _ _ ?_);refine wp_block ?_;have J9:∀(a8:Cl) (a:Act) (s:St),Has N0 32 s0 a s [(2,(Pd.box En.cls s0.w.heap.size g2 (0#256))),(3,(Pd.box En.cls s0.w.heap.size g4 a8))]→Dis (some g2) (some g4)→((zbv.j1 r_) a8)→K6 a s.w:=by
  intro a8 a s L d10 h;unfold zbv.j1 at h;show K6 a s.w;refine H6 _ _ (wp_seq_k fun K11 H11=>?_);refine rg (sw 31 (zbr zco (O 3 J) J J) L fun a s L=>?_);refine zby (L':=[]) 2 L J (O 31 J) zco J J J .nil fun s L=>?_;refine en' (H11 _ _ ?_);subst h;exact wp_ret (retb J zco L J)
 obtain ⟨k14,h⟩:=h;refine lpg (fun k15 a s=>∃(a12:Cl) (w13:Int),Has N0 32 s0 a s [(0,(Pd.rep (En.slice En.bool) l_)),(2,(Pd.box En.cls s0.w.heap.size g2 (0#256))),(3,(Pd.box En.cls s0.w.heap.size g4 a12)),(4,(Pi w13))]∧Dis (some g2) (some g4)∧zbv.l1 l_ (zbv.j1 r_) k15 a12 w13) k14 ⟨(0#256),0,L.keep (.k 0 (.cons (t:=2) J (fun _ _ h_=>h_) (.cons (t:=3) J (fun _ _ h_=>h_) (.k 4 .nil)))),(Dis.symm d5),h⟩ ?_;rintro k15 a s ⟨a12,w13,L,d17,h⟩ KL16 hKL16;cases k15 with
 | zero=>exact h.elim
 | succ k15=>
 unfold zbv.l1 at h;refine wp_seq_k fun K18 H18=>wp_seq_k fun K19 H19=>rg (sw 7 (zd (O 4 J) J J) L fun a s L=>?_);refine sw 8 (zbz (O 7 J) oI J J) L fun a s L=>en' (H19 _ _ ?_);refine cnd L J (fun hb_=>?_) (fun hb_=>?_)
 ·replace h:=h.1 hb_;refine wp_skip ?_;show K18 a s.w;refine H18 _ _ (wp_seq_k fun K20 H20=>?_);refine wp_block (wp_seq_k fun K21 H21=>?_);refine rg (sw 5 (zb (o_i (k:=.u64) (by decide)) J J) L fun a s L=>?_);refine en' (H21 _ _ ?_);refine wp_seq_k fun K22 H22=>rg (sw 6 (zb oI J J) L fun a s L=>?_);refine en' (H22 _ _ ?_);refine wp_block ?_;have J24:∀(a23:Cl) (a:Act) (s:St),Has N0 32 s0 a s [(0,(Pd.rep (En.slice En.bool) l_)),(2,(Pd.box En.cls s0.w.heap.size g2 (0#256))),(3,(Pd.box En.cls s0.w.heap.size g4 a23)),(4,(Pi w13))]→Dis (some g2) (some g4)→((zbv.j2 (zbv.l1 l_ (zbv.j1 r_) k15) w13) a23)→K20 a s.w:=by
   intro a23 a s L d25 h;unfold zbv.j2 at h;show K20 a s.w;refine H20 _ _ ?_;obtain ⟨h26,h⟩:=h;refine rg (sw 9 (zd (O 4 J) J J) L fun a s L=>?_);refine sw 10 (zbk (O 9 J) oI h26 J J) L fun a s L=>sw 4 (zb (O 10 J) J J) L fun a s L=>en' ?_;exact hKL16 k15 a s (Nat.lt_succ_self _) ⟨a23,(w13+1),L.keep (.k 0 (.cons (t:=2) J (fun _ _ h_=>h_) (.cons (t:=3) J (fun _ _ h_=>h_) (.k 4 .nil)))),d25,h⟩
  obtain ⟨k30,h⟩:=h;refine lpg (fun k31 a s=>∃(a27:Cl) (bit28:Int) (i29:Int),Has N0 32 s0 a s [(0,(Pd.rep (En.slice En.bool) l_)),(2,(Pd.box En.cls s0.w.heap.size g2 (0#256))),(3,(Pd.box En.cls s0.w.heap.size g4 a27)),(4,(Pi w13)),(5,(Pd.rep (En.int .u64) bit28)),(6,(Pi i29))]∧Dis (some g2) (some g4)∧zbv.l2 l_ w13 (zbv.j2 (zbv.l1 l_ (zbv.j1 r_) k15) w13) k31 a27 bit28 i29) k30 ⟨a12,1,0,L.keep (.k 0 (.cons (t:=2) J (fun _ _ h_=>h_) (.cons (t:=3) J (fun _ _ h_=>h_) (.k 4 (.k 5 (.k 6 .nil)))))),d17,h⟩ ?_;rintro k31 a s ⟨a27,bit28,i29,L,d33,h⟩ KL32 hKL32;cases k31 with
  | zero=>exact h.elim
  | succ k31=>
  unfold zbv.l2 at h;refine wp_seq_k fun K34 H34=>wp_seq_k fun K35 H35=>rg (sw 11 (zd (O 6 J) J J) L fun a s L=>?_);refine sw 12 (zbz (O 11 J) oI J J) L fun a s L=>en' (H35 _ _ ?_);refine cnd L J (fun hb_=>?_) (fun hb_=>?_)
  ·replace h:=h.1 hb_;refine wp_skip ?_;show K34 a s.w;refine H34 _ _ (wp_seq_k fun K36 H36=>?_);refine wp_block (wp_seq_k fun K37 H37=>?_);refine wp_seq_k fun K38 H38=>?_;obtain ⟨h39,h40,e41,h42,h⟩:=h;refine rg (sw 15 (zd (O 0 J) J J) L fun a s L=>?_);refine sw 16 (zd (O 4 J) J J) L fun a s L=>sw 17 (zk3 oI (O 16 J) h39 J J) L fun a s L=>sw 18 (zd (O 6 J) J J) L fun a s L=>sw 19 (zbk (O 17 J) (O 18 J) h40 J J) L fun a s L=>sw 20 (zde (O 15 J) (O 19 J) h42 U119 ty4 J J) L fun a s L=>sw 21 (zt ty4 (O 20 J) J J) L fun a s L=>en' (H38 _ _ ?_);refine cnd L J (fun hb_=>?_) (fun hb_=>?_)
   ·obtain ⟨h43,h44,h⟩:=h.1 hb_;refine rg (sw 22 (zd (O 4 J) J J) L fun a s L=>?_);refine sw 23 (zd (O 4 J) J J) L fun a s L=>sw 24 (zid (O 3 J) (O 23 J) h43 U51 (by rfl) J J) L fun a s L=>sw 25 (zp ty49 (O 24 J) J J) L fun a s L=>sw 26 (zd (O 5 J) J J) L fun a s L=>sw 27 (t_addw (O 25 J) (O 26 J) J J) L fun a s L=>sw 28 (zid (O 3 J) (O 22 J) h44 U51 (by rfl) J J) L fun a s L=>zed (L':=[(0,(Pd.rep (En.slice En.bool) l_)),(2,(Pd.box En.cls s0.w.heap.size g2 (0#256))),(4,(Pi w13)),(5,(Pd.rep (En.int .u64) bit28)),(6,(Pi i29))]) 3 L J (O 28 J) (O 27 J) (zpo h44) ty49 J J J (.k 0 (.cons (t:=2) J (Dis.bx d33) (.k 4 (.k 5 (.k 6 .nil))))) fun s L=>?_;refine en' (H37 _ _ ?_);refine rg (sw 29 (zd (O 5 J) J J) L fun a s L=>?_);refine sw 30 (t_mulw (O 29 J) (o_i (k:=.u64) (by decide)) J J) L fun a s L=>sw 5 (zb (O 30 J) J J) L fun a s L=>en' (H36 _ _ ?_);obtain ⟨h45,h⟩:=h;refine rg (sw 13 (zd (O 6 J) J J) L fun a s L=>?_);refine sw 14 (zbk (O 13 J) oI h45 J J) L fun a s L=>sw 6 (zb (O 14 J) J J) L fun a s L=>en' ?_;exact hKL32 k31 a s (Nat.lt_succ_self _) ⟨(Cl.setw a27 w13 (IntKind.wrap .u64 ((Cl.w a27 w13)+bit28))),(IntKind.wrap .u64 (bit28*2)),(i29+1),L.keep (.k 0 (.cons (t:=2) J (fun _ _ h_=>h_) (.cons (t:=3) J (fun _ _ h_=>h_) (.k 4 (.k 5 (.k 6 .nil)))))),d33,h⟩
   ·replace h:=h.2 hb_;refine wp_skip ?_;show K37 a s.w;refine H37 _ _ (rg ?_);refine sw 29 (zd (O 5 J) J J) L fun a s L=>sw 30 (t_mulw (O 29 J) (o_i (k:=.u64) (by decide)) J J) L fun a s L=>sw 5 (zb (O 30 J) J J) L fun a s L=>en' (H36 _ _ ?_);obtain ⟨h46,h⟩:=h;refine rg (sw 13 (zd (O 6 J) J J) L fun a s L=>?_);refine sw 14 (zbk (O 13 J) oI h46 J J) L fun a s L=>sw 6 (zb (O 14 J) J J) L fun a s L=>en' ?_;exact hKL32 k31 a s (Nat.lt_succ_self _) ⟨a27,(IntKind.wrap .u64 (bit28*2)),(i29+1),L.keep (.k 0 (.cons (t:=2) J (fun _ _ h_=>h_) (.cons (t:=3) J (fun _ _ h_=>h_) (.k 4 (.k 5 (.k 6 .nil)))))),d33,h⟩
  ·replace h:=h.2 hb_;refine wp_exit ?_;exact J24 a27 a s (L.keep (.k 0 (.cons (t:=2) J (fun _ _ h_=>h_) (.cons (t:=3) J (fun _ _ h_=>h_) (.k 4 .nil))))) d33 h
 ·replace h:=h.2 hb_;refine wp_exit ?_;exact J9 a12 a s (L.keep (.cons (t:=2) J (fun _ _ h_=>h_) (.cons (t:=3) J (fun _ _ h_=>h_) .nil))) d17 h
theorem ref01_Row_ok {from_:Int} {to_:Int} {r_:Cl} (h:zc3 from_ to_ r_):Fn Tryz.prog 47 [(Pd.rep (En.int .u8) from_),(Pd.rep (En.int .u8) to_)] (Rq (Pd.rep En.cls r_)):=by
 unfold zc3 at h;refine zbx Tryz.func47 J Tryz.ntmps47 (by rfl) (by simp) fun s0 a L=>?_;refine wp_seq_k fun K1 H1=>rg (zbf En.cls (z:=(0#256)) 4 L zj4 J J J J fun a s g2 hg_ L=>?_);refine en' (H1 _ _ ?_);refine wp_seq_k fun K3 H3=>rg ?_;have lt_d5:=L.blt 4 rfl;refine st_make En.bool (z:=false) (m:=256) 7 L oI oI (by decide) U119 ty4 tyz4 J J J J fun a s g4 hg_ L=>?_;have d5:Dis (some g4) (some g2):=Dis.newg hg_ lt_d5;refine sw 5 (zb (O 7 J) J J) L fun a s L=>en' (H3 _ _ ?_);refine wp_seq_k fun K6 H6=>wp_seq_k fun K7 H7=>rg (sw 8 (zd (O 0 J) J J) L fun a s L=>?_);refine sw 9 (t_up (O 8 J) (by decide) U5 U3 J J) L fun a s L=>sw 6 (zb (O 9 J) J J) L fun a s L=>en' (H7 _ _ ?_);refine wp_block ?_;have J10:∀(l8:(List Bool)) (og9:Option Nat) (a:Act) (s:St),Has N0 21 s0 a s [(4,(Pd.box En.cls s0.w.heap.size g2 (0#256))),(5,(Pd.row En.bool s0.w.heap.size 4 og9 l8))]→Dis (some g2) og9→((zc3.j1 r_) l8)→K6 a s.w:=by
  intro l8 og9 a s L d11 h;unfold zc3.j1 at h;show K6 a s.w;refine H6 _ _ (wp_seq_k fun K12 H12=>?_);obtain ⟨s14,h13,L⟩:=L.freeze (L':=[(4,(Pd.box En.cls s0.w.heap.size g2 (0#256)))]) 5 rfl (.cons (t:=4) rfl (Dis.bx d11) .nil);rw [← h13];clear h13;generalize s14=s at *;obtain ⟨r15,h16,h⟩:=h;refine rg (sw 19 (zd (O 5 J) J J) L fun a s L=>?_);refine sw 20 (zy (ref01_Of_ok h16) (xs:=[.tmp 19]) (.cons (O 19 J) .nil) J J) L fun a s L=>zby (L':=[]) 4 L J (O 20 J) zco J J J .nil fun s L=>?_;refine en' (H12 _ _ ?_);subst h;exact wp_ret (retb J zco L J)
 obtain ⟨k20,h⟩:=h;refine lpg (fun k21 a s=>∃(l17:(List Bool)) (i19:Int) (og18:Option Nat),Has N0 21 s0 a s [(1,(Pd.rep (En.int .u8) to_)),(4,(Pd.box En.cls s0.w.heap.size g2 (0#256))),(5,(Pd.row En.bool s0.w.heap.size 4 og18 l17)),(6,(Pi i19))]∧Dis (some g2) og18∧zc3.l1 to_ (zc3.j1 r_) k21 l17 i19) k20 ⟨(List.replicate 256 false),from_,(some g4),L.keep (.k 1 (.cons (t:=4) J (fun _ _ h_=>h_) (.cons (t:=5) J (fun _ _ h_=>h_) (.k 6 .nil)))),(Dis.symm d5),h⟩ ?_;rintro k21 a s ⟨l17,i19,og18,L,d23,h⟩ KL22 hKL22;cases k21 with
 | zero=>exact h.elim
 | succ k21=>
 unfold zc3.l1 at h;refine wp_seq_k fun K24 H24=>wp_seq_k fun K25 H25=>rg (sw 10 (zd (O 6 J) J J) L fun a s L=>?_);refine sw 11 (zd (O 1 J) J J) L fun a s L=>sw 12 (t_up (O 11 J) (by decide) U5 U3 J J) L fun a s L=>sw 13 (zji (O 10 J) (O 12 J) J J) L fun a s L=>en' (H25 _ _ ?_);refine cnd L J (fun hb_=>?_) (fun hb_=>?_)
 ·replace h:=h.1 hb_;refine wp_skip ?_;show K24 a s.w;refine H24 _ _ (wp_seq_k fun K26 H26=>?_);refine wp_block ?_;obtain ⟨e27,h28,h⟩:=h;refine rg (sw 16 (zd (O 5 J) J J) L fun a s L=>?_);refine sw 17 (zd (O 6 J) J J) L fun a s L=>sw 18 (zca (O 16 J) (O 17 J) h28 U119 ty4 J J) L fun a s L=>st_stor (L':=[(1,(Pd.rep (En.int .u8) to_)),(4,(Pd.box En.cls s0.w.heap.size g2 (0#256))),(5,(Pd.row En.bool s0.w.heap.size 4 og18 (l17.set (i19:Int).toNat true))),(6,(Pi i19))]) (off:=0) 5 L J h28 (O 18 J) o_b (zz _ _ _) ty4 J J J (.k 1 (.cons (t:=4) J (Dis.bx d23) (.turn (t:=5) J (.k 6 .nil)))) fun s L=>?_;refine en' (H26 _ _ ?_);obtain ⟨h29,h⟩:=h;refine rg (sw 14 (zd (O 6 J) J J) L fun a s L=>?_);refine sw 15 (zbk (O 14 J) oI h29 J J) L fun a s L=>sw 6 (zb (O 15 J) J J) L fun a s L=>en' ?_;exact hKL22 k21 a s (Nat.lt_succ_self _) ⟨(l17.set (i19:Int).toNat true),(i19+1),og18,L.keep (.k 1 (.cons (t:=4) J (fun _ _ h_=>h_) (.cons (t:=5) J (fun _ _ h_=>h_) (.k 6 .nil)))),d23,h⟩
 ·replace h:=h.2 hb_;refine wp_exit ?_;exact J10 l17 og18 a s (L.keep (.cons (t:=4) J (fun _ _ h_=>h_) (.cons (t:=5) J (fun _ _ h_=>h_) .nil))) d23 h
theorem class_Add_ok {a_:Cl} {list_:(List Int)} {r_:Cl} (h:zdd a_ list_ r_):Fn Tryz.prog 138 [(Pd.rep En.cls a_),(Pd.rep (En.slice (En.int .u8)) list_)] (Rq (Pd.rep En.cls r_)):=by
 unfold zdd at h;refine zbx Tryz.func138 J Tryz.ntmps138 (by rfl) (by simp) fun s0 a L=>?_;refine wp_seq_k fun K1 H1=>rg (st_boxm 2 L (O 0 J) J J J J fun a s g2 hg_ L=>?_);have lt_d4:=L.blt 2 rfl;refine zbf En.cls (z:=(0#256)) 4 L zj4 J J J J fun a s g3 hg_ L=>?_;have d4:Dis (some g3) (some g2):=Dis.newg hg_ lt_d4;refine en' (H1 _ _ ?_);refine wp_seq_k fun K5 H5=>wp_seq_k fun K6 H6=>rg (sw 7 (zd (O 1 J) J J) L fun a s L=>?_);refine sw 8 (zc8 (O 7 J) U26 J J) L fun a s L=>sw 9 (zd oI J J) L fun a s L=>en' (H6 _ _ ?_);refine wp_block ?_;have J8:∀(a7:Cl) (a:Act) (s:St),Has N0 24 s0 a s [(2,(Pd.box En.cls s0.w.heap.size g2 a7)),(4,(Pd.box En.cls s0.w.heap.size g3 (0#256)))]→Dis (some g2) (some g3)→((zdd.j1 r_) a7)→K5 a s.w:=by
  intro a7 a s L d9 h;unfold zdd.j1 at h;show K5 a s.w;refine H5 _ _ (wp_seq_k fun K10 H10=>?_);refine rg (sw 23 (zbr zco (O 2 J) J J) L fun a s L=>?_);refine zby (L':=[]) 4 L J (O 23 J) zco J J J .nil fun s L=>?_;refine en' (H10 _ _ ?_);subst h;exact wp_ret (retb J zco L J)
 obtain ⟨k13,h⟩:=h;refine lpg (fun k14 a s=>∃(a11:Cl) (v12:Int),Has N0 24 s0 a s [(2,(Pd.box En.cls s0.w.heap.size g2 a11)),(4,(Pd.box En.cls s0.w.heap.size g3 (0#256))),(7,(Pd.rep (En.slice (En.int .u8)) list_)),(8,(Pi (list_.length:Int))),(9,(Pi v12))]∧Dis (some g2) (some g3)∧zdd.l1 list_ (zdd.j1 r_) k14 a11 v12) k13 ⟨a_,0,L.keep (.cons (t:=2) J (fun _ _ h_=>h_) (.cons (t:=4) J (fun _ _ h_=>h_) (.k 7 (.k 8 (.k 9 .nil))))),(Dis.symm d4),h⟩ ?_;rintro k14 a s ⟨a11,v12,L,d16,h⟩ KL15 hKL15;cases k14 with
 | zero=>exact h.elim
 | succ k14=>
 unfold zdd.l1 at h;refine wp_seq_k fun K17 H17=>rg (sw 10 (zbz (O 9 J) (O 8 J) J J) L fun a s L=>?_);refine en' (H17 _ _ ?_);refine wp_seq_k fun K18 H18=>cnd L J (fun hb_=>?_) (fun hb_=>?_)
 ·replace h:=h.1 hb_;refine wp_skip ?_;show K18 a s.w;refine H18 _ _ (wp_seq_k fun K19 H19=>?_);refine wp_block (wp_seq_k fun K20 H20=>?_);obtain ⟨e21,h22,h⟩:=h;refine rg (sw 11 (zde (O 7 J) (O 9 J) h22 U26 ty5 J J) L fun a s L=>?_);refine sw 12 (zt ty5 (O 11 J) J J) L fun a s L=>sw 6 (zb (O 12 J) J J) L fun a s L=>en' (H20 _ _ ?_);obtain ⟨h23,h24,h⟩:=h;refine rg (sw 13 (zd (O 6 J) J J) L fun a s L=>?_);refine sw 14 (t_quou (O 13 J) (o_i (k:=.u8) (by decide)) (by decide) (by decide) J J) L fun a s L=>sw 15 (zid (O 2 J) (O 14 J) h23 U51 (by rfl) J J) L fun a s L=>sw 16 (zp ty49 (O 15 J) J J) L fun a s L=>sw 17 (zd (O 6 J) J J) L fun a s L=>sw 18 (t_remu (O 17 J) (o_i (k:=.u8) (by decide)) (by decide) (by decide) J J) L fun a s L=>sw 19 (t_shl (o_i (k:=.u64) (by decide)) (O 18 J) (by decide) J J) L fun a s L=>sw 20 (t_orb (O 16 J) (O 19 J) J J) L fun a s L=>sw 21 (zid (O 2 J) (O 14 J) h24 U51 (by rfl) J J) L fun a s L=>zed (L':=[(4,(Pd.box En.cls s0.w.heap.size g3 (0#256))),(7,(Pd.rep (En.slice (En.int .u8)) list_)),(8,(Pi (list_.length:Int))),(9,(Pi v12))]) 2 L J (O 21 J) (O 20 J) (zpo h24) ty49 J J J (.cons (t:=4) J (Dis.bx d4) (.k 7 (.k 8 (.k 9 .nil)))) fun s L=>?_;refine en' (H19 _ _ ?_);obtain ⟨h25,h⟩:=h;refine rg (sw 22 (zbk (O 9 J) oI h25 J J) L fun a s L=>?_);refine sw 9 (zd (O 22 J) J J) L fun a s L=>en' ?_;exact hKL15 k14 a s (Nat.lt_succ_self _) ⟨(Cl.setw a11 (e21 / 64) (orI (Cl.w a11 (e21 / 64)) (shlI 1 (e21 % 64)))),(v12+1),L.keep (.cons (t:=2) J (fun _ _ h_=>h_) (.cons (t:=4) J (fun _ _ h_=>h_) (.k 7 (.k 8 (.k 9 .nil))))),d16,h⟩
 ·replace h:=h.2 hb_;refine wp_exit ?_;exact J8 a11 a s (L.keep (.cons (t:=2) J (fun _ _ h_=>h_) (.cons (t:=4) J (fun _ _ h_=>h_) .nil))) d16 h
theorem znq {from_:Int} {to_:Int} {r_:Cl} (h:zdt from_ to_ r_):Fn Tryz.prog 105 [(Pd.rep (En.int .u8) from_),(Pd.rep (En.int .u8) to_)] (Rq (Pd.rep En.cls r_)):=by
 unfold zdt at h;refine zbx Tryz.func105 J Tryz.ntmps105 (by rfl) (by simp) fun s0 a L=>?_;refine wp_seq_k fun K1 H1=>rg (zbf En.cls (z:=(0#256)) 4 L zj4 J J J J fun a s g2 hg_ L=>?_);refine en' (H1 _ _ ?_);refine wp_seq_k fun K3 H3=>rg ?_;have lt_d5:=L.blt 4 rfl;refine zbf En.cls (z:=(0#256)) 5 L zj4 J J J J fun a s g4 hg_ L=>?_;have d5:Dis (some g4) (some g2):=Dis.newg hg_ lt_d5;refine en' (H3 _ _ ?_);refine wp_seq_k fun K6 H6=>wp_seq_k fun K7 H7=>rg (sw 8 (zd oI J J) L fun a s L=>?_);refine en' (H7 _ _ ?_);refine wp_block ?_;have J9:∀(a8:Cl) (a:Act) (s:St),Has N0 27 s0 a s [(4,(Pd.box En.cls s0.w.heap.size g2 (0#256))),(5,(Pd.box En.cls s0.w.heap.size g4 a8))]→Dis (some g2) (some g4)→((zdt.j1 r_) a8)→K6 a s.w:=by
  intro a8 a s L d10 h;unfold zdt.j1 at h;show K6 a s.w;refine H6 _ _ (wp_seq_k fun K11 H11=>?_);refine rg (sw 26 (zbr zco (O 5 J) J J) L fun a s L=>?_);refine zby (L':=[]) 4 L J (O 26 J) zco J J J .nil fun s L=>?_;refine en' (H11 _ _ ?_);subst h;exact wp_ret (retb J zco L J)
 obtain ⟨k14,h⟩:=h;refine lpg (fun k15 a s=>∃(a12:Cl) (v13:Int),Has N0 27 s0 a s [(0,(Pd.rep (En.int .u8) from_)),(1,(Pd.rep (En.int .u8) to_)),(4,(Pd.box En.cls s0.w.heap.size g2 (0#256))),(5,(Pd.box En.cls s0.w.heap.size g4 a12)),(8,(Pi v13))]∧Dis (some g2) (some g4)∧zdt.l1 from_ to_ (zdt.j1 r_) k15 a12 v13) k14 ⟨(0#256),0,L.keep (.k 0 (.k 1 (.cons (t:=4) J (fun _ _ h_=>h_) (.cons (t:=5) J (fun _ _ h_=>h_) (.k 8 .nil))))),(Dis.symm d5),h⟩ ?_;rintro k15 a s ⟨a12,v13,L,d17,h⟩ KL16 hKL16;cases k15 with
 | zero=>exact h.elim
 | succ k15=>
 unfold zdt.l1 at h;refine wp_seq_k fun K18 H18=>rg (sw 9 (zbz (O 8 J) oI J J) L fun a s L=>?_);refine en' (H18 _ _ ?_);refine wp_seq_k fun K19 H19=>cnd L J (fun hb_=>?_) (fun hb_=>?_)
 ·replace h:=h.1 hb_;refine wp_skip ?_;show K19 a s.w;refine H19 _ _ (wp_seq_k fun K20 H20=>?_);refine wp_block (wp_seq_k fun K21 H21=>?_);refine rg (sw 10 (zd (O 8 J) J J) L fun a s L=>?_);refine sw 6 (zb (O 10 J) J J) L fun a s L=>en' (H21 _ _ ?_);refine wp_seq_k fun K22 H22=>rg (sw 11 (zd (O 6 J) J J) L fun a s L=>?_);refine sw 12 (t_u8 (O 11 J) U3 U5 J J) L fun a s L=>sw 7 (zb (O 12 J) J J) L fun a s L=>en' (H22 _ _ ?_);refine wp_seq_k fun K23 H23=>?_;obtain ⟨b24,h25,h⟩:=h;refine rg (sw 13 (zd (O 7 J) J J) L fun a s L=>?_);refine sw 14 (zd (O 0 J) J J) L fun a s L=>sw 15 (zj5 (O 13 J) (O 14 J) J J) L fun a s L=>sw 16 (zd (O 15 J) J J) L fun a s L=>sw 17 (zbg J J J (fun hc_=>zd (O 7 J) J J)) L fun a s L=>sw 18 (zbg J J J (fun hc_=>zd (O 1 J) J J)) L fun a s L=>sw 19 (zbg J J J (fun hc_=>zji (o_w hc_ 17 J) (o_w hc_ 18 J) J J)) L fun a s L=>sw 20 (h25 ▸ (zc1 (O 16 J) (fun hc2_=>(o_w hc2_ 19 J)) J J)) L fun a s L=>en' (H23 _ _ ?_);refine cnd L J (fun hb_=>?_) (fun hb_=>?_)
  ·obtain ⟨r26,h27,h⟩:=h.1 hb_;refine rg (sw 21 (zbr zco (O 5 J) J J) L fun a s L=>?_);refine sw 22 (zd (O 7 J) J J) L fun a s L=>sw 23 (zec (xs:=[.tmp 22]) (.cons (O 22 J) .nil) U26 ty5 J J (by decide) J J) L fun a s L=>sw 24 (zy (class_Add_ok h27) (xs:=[.tmp 21,.tmp 23]) (.cons (O 21 J) (.cons (O 23 J) .nil)) J J) L fun a s L=>zby (L':=[(0,(Pd.rep (En.int .u8) from_)),(1,(Pd.rep (En.int .u8) to_)),(4,(Pd.box En.cls s0.w.heap.size g2 (0#256))),(8,(Pi v13))]) 5 L J (O 24 J) zco J J J (.k 0 (.k 1 (.cons (t:=4) J (Dis.bx d17) (.k 8 .nil)))) fun s L=>?_;refine en' (H20 _ _ ?_);obtain ⟨h28,h⟩:=h;refine rg (sw 25 (zbk (O 8 J) oI h28 J J) L fun a s L=>?_);refine sw 8 (zd (O 25 J) J J) L fun a s L=>en' ?_;exact hKL16 k15 a s (Nat.lt_succ_self _) ⟨r26,(v13+1),L.keep (.k 0 (.k 1 (.cons (t:=4) J (fun _ _ h_=>h_) (.cons (t:=5) J (fun _ _ h_=>h_) (.k 8 .nil))))),d17,h⟩
  ·replace h:=h.2 hb_;refine wp_skip ?_;show K20 a s.w;refine H20 _ _ ?_;obtain ⟨h29,h⟩:=h;refine rg (sw 25 (zbk (O 8 J) oI h29 J J) L fun a s L=>?_);refine sw 8 (zd (O 25 J) J J) L fun a s L=>en' ?_;exact hKL16 k15 a s (Nat.lt_succ_self _) ⟨a12,(v13+1),L.keep (.k 0 (.k 1 (.cons (t:=4) J (fun _ _ h_=>h_) (.cons (t:=5) J (fun _ _ h_=>h_) (.k 8 .nil))))),d17,h⟩
 ·replace h:=h.2 hb_;refine wp_exit ?_;exact J9 a12 a s (L.keep (.cons (t:=4) J (fun _ _ h_=>h_) (.cons (t:=5) J (fun _ _ h_=>h_) .nil))) d17 h
theorem zlu {a_:Cl} {r_:Cl} (h:zdc a_ r_):Fn Tryz.prog 135 [(Pd.rep En.cls a_)] (Rq (Pd.rep En.cls r_)):=by
 unfold zdc at h;refine zbx Tryz.func135 J Tryz.ntmps135 (by rfl) (by simp) fun s0 a L=>?_;refine wp_seq_k fun K1 H1=>rg (st_boxm 1 L (O 0 J) J J J J fun a s g2 hg_ L=>?_);have lt_d4:=L.blt 1 rfl;refine zbf En.cls (z:=(0#256)) 2 L zj4 J J J J fun a s g3 hg_ L=>?_;have d4:Dis (some g3) (some g2):=Dis.newg hg_ lt_d4;refine en' (H1 _ _ ?_);refine wp_seq_k fun K5 H5=>wp_seq_k fun K6 H6=>rg (sw 4 (zd oI J J) L fun a s L=>?_);refine en' (H6 _ _ ?_);refine wp_block ?_;have J8:∀(a7:Cl) (a:Act) (s:St),Has N0 15 s0 a s [(1,(Pd.box En.cls s0.w.heap.size g2 a7)),(2,(Pd.box En.cls s0.w.heap.size g3 (0#256)))]→Dis (some g2) (some g3)→((zdc.j1 r_) a7)→K5 a s.w:=by
  intro a7 a s L d9 h;unfold zdc.j1 at h;show K5 a s.w;refine H5 _ _ (wp_seq_k fun K10 H10=>?_);refine rg (sw 14 (zbr zco (O 1 J) J J) L fun a s L=>?_);refine zby (L':=[]) 2 L J (O 14 J) zco J J J .nil fun s L=>?_;refine en' (H10 _ _ ?_);subst h;exact wp_ret (retb J zco L J)
 obtain ⟨k13,h⟩:=h;refine lpg (fun k14 a s=>∃(a11:Cl) (v12:Int),Has N0 15 s0 a s [(1,(Pd.box En.cls s0.w.heap.size g2 a11)),(2,(Pd.box En.cls s0.w.heap.size g3 (0#256))),(4,(Pi v12))]∧Dis (some g2) (some g3)∧zdc.l1 (zdc.j1 r_) k14 a11 v12) k13 ⟨a_,0,L.keep (.cons (t:=1) J (fun _ _ h_=>h_) (.cons (t:=2) J (fun _ _ h_=>h_) (.k 4 .nil))),(Dis.symm d4),h⟩ ?_;rintro k14 a s ⟨a11,v12,L,d16,h⟩ KL15 hKL15;cases k14 with
 | zero=>exact h.elim
 | succ k14=>
 unfold zdc.l1 at h;refine wp_seq_k fun K17 H17=>rg (sw 5 (zbz (O 4 J) oI J J) L fun a s L=>?_);refine en' (H17 _ _ ?_);refine wp_seq_k fun K18 H18=>cnd L J (fun hb_=>?_) (fun hb_=>?_)
 ·replace h:=h.1 hb_;refine wp_skip ?_;show K18 a s.w;refine H18 _ _ (wp_seq_k fun K19 H19=>?_);refine wp_block (wp_seq_k fun K20 H20=>?_);refine rg (sw 6 (zd (O 4 J) J J) L fun a s L=>?_);refine sw 3 (zb (O 6 J) J J) L fun a s L=>en' (H20 _ _ ?_);obtain ⟨h21,h22,h⟩:=h;refine rg (sw 7 (zd (O 3 J) J J) L fun a s L=>?_);refine sw 8 (zd (O 3 J) J J) L fun a s L=>sw 9 (zid (O 1 J) (O 8 J) h21 U51 (by rfl) J J) L fun a s L=>sw 10 (zp ty49 (O 9 J) J J) L fun a s L=>sw 11 (t_com (O 10 J) J J) L fun a s L=>sw 12 (zid (O 1 J) (O 7 J) h22 U51 (by rfl) J J) L fun a s L=>zed (L':=[(2,(Pd.box En.cls s0.w.heap.size g3 (0#256))),(4,(Pi v12))]) 1 L J (O 12 J) (O 11 J) (zpo h22) ty49 J J J (.cons (t:=2) J (Dis.bx d4) (.k 4 .nil)) fun s L=>?_;refine en' (H19 _ _ ?_);obtain ⟨h23,h⟩:=h;refine rg (sw 13 (zbk (O 4 J) oI h23 J J) L fun a s L=>?_);refine sw 4 (zd (O 13 J) J J) L fun a s L=>en' ?_;exact hKL15 k14 a s (Nat.lt_succ_self _) ⟨(Cl.setw a11 v12 (xorI 18446744073709551615 (Cl.w a11 v12))),(v12+1),L.keep (.cons (t:=1) J (fun _ _ h_=>h_) (.cons (t:=2) J (fun _ _ h_=>h_) (.k 4 .nil))),d16,h⟩
 ·replace h:=h.2 hb_;refine wp_exit ?_;exact J8 a11 a s (L.keep (.cons (t:=1) J (fun _ _ h_=>h_) (.cons (t:=2) J (fun _ _ h_=>h_) .nil))) d16 h
theorem zkv {a_:Cl} {b_:Cl} {r_:Cl} (h:zct a_ b_ r_):Fn Tryz.prog 163 [(Pd.rep En.cls a_),(Pd.rep En.cls b_)] (Rq (Pd.rep En.cls r_)):=by
 unfold zct at h;refine zbx Tryz.func163 J Tryz.ntmps163 (by rfl) (by simp) fun s0 a L=>?_;refine wp_seq_k fun K1 H1=>rg (st_boxm 2 L (O 0 J) J J J J fun a s g2 hg_ L=>?_);refine sw 3 (zcu (O 1 J) J J) L fun a s L=>?_;have lt_d4:=L.blt 2 rfl;refine zbf En.cls (z:=(0#256)) 4 L zj4 J J J J fun a s g3 hg_ L=>?_;have d4:Dis (some g3) (some g2):=Dis.newg hg_ lt_d4;refine en' (H1 _ _ ?_);refine wp_seq_k fun K5 H5=>wp_seq_k fun K6 H6=>rg (sw 6 (zd oI J J) L fun a s L=>?_);refine en' (H6 _ _ ?_);refine wp_block ?_;have J8:∀(a7:Cl) (a:Act) (s:St),Has N0 19 s0 a s [(2,(Pd.box En.cls s0.w.heap.size g2 a7)),(4,(Pd.box En.cls s0.w.heap.size g3 (0#256)))]→Dis (some g2) (some g3)→((zct.j1 r_) a7)→K5 a s.w:=by
  intro a7 a s L d9 h;unfold zct.j1 at h;show K5 a s.w;refine H5 _ _ (wp_seq_k fun K10 H10=>?_);refine rg (sw 18 (zbr zco (O 2 J) J J) L fun a s L=>?_);refine zby (L':=[]) 4 L J (O 18 J) zco J J J .nil fun s L=>?_;refine en' (H10 _ _ ?_);subst h;exact wp_ret (retb J zco L J)
 obtain ⟨k13,h⟩:=h;refine lpg (fun k14 a s=>∃(a11:Cl) (v12:Int),Has N0 19 s0 a s [(2,(Pd.box En.cls s0.w.heap.size g2 a11)),(3,(Pd.ptr En.cls b_)),(4,(Pd.box En.cls s0.w.heap.size g3 (0#256))),(6,(Pi v12))]∧Dis (some g2) (some g3)∧zct.l1 b_ (zct.j1 r_) k14 a11 v12) k13 ⟨a_,0,L.keep (.cons (t:=2) J (fun _ _ h_=>h_) (.k 3 (.cons (t:=4) J (fun _ _ h_=>h_) (.k 6 .nil)))),(Dis.symm d4),h⟩ ?_;rintro k14 a s ⟨a11,v12,L,d16,h⟩ KL15 hKL15;cases k14 with
 | zero=>exact h.elim
 | succ k14=>
 unfold zct.l1 at h;refine wp_seq_k fun K17 H17=>rg (sw 7 (zbz (O 6 J) oI J J) L fun a s L=>?_);refine en' (H17 _ _ ?_);refine wp_seq_k fun K18 H18=>cnd L J (fun hb_=>?_) (fun hb_=>?_)
 ·replace h:=h.1 hb_;refine wp_skip ?_;show K18 a s.w;refine H18 _ _ (wp_seq_k fun K19 H19=>?_);refine wp_block (wp_seq_k fun K20 H20=>?_);refine rg (sw 8 (zd (O 6 J) J J) L fun a s L=>?_);refine sw 5 (zb (O 8 J) J J) L fun a s L=>en' (H20 _ _ ?_);obtain ⟨h21,h22,h23,h⟩:=h;refine rda zcm 8 [(Pi v12),(Pd.optr (En.int .u64) s0.w.heap.size (some g2) (v12.toNat) (Cl.w a11 v12)),(Pd.rep (En.int .u64) (Cl.w a11 v12)),(Pi v12),(Pd.ptr (En.int .u64) (Cl.w b_ v12)),(Pd.rep (En.int .u64) (Cl.w b_ v12)),(Pd.rep (En.int .u64) (andI (Cl.w a11 v12) (Cl.w b_ v12))),(Pd.optr (En.int .u64) s0.w.heap.size (some g2) (v12.toNat) (Cl.w a11 v12))] L (by kernel_rfl) J J ?_ ?_
  ·refine z8.cons (zd (O 5 J) J J) ?_;refine z8.cons (zid (O 2 J) (O 9 J) h21 U51 (by rfl) J J) (z8.cons (zp ty49 (O 10 J) J J) ?_);refine z8.cons (zd (O 5 J) J J) (z8.cons (t_idxc (O 3 J) (O 12 J) h22 U51 (by rfl) J J) ?_);refine z8.cons (zt ty49 (O 13 J) J J) (z8.cons (t_andb (O 11 J) (O 14 J) J J) ?_);refine z8.cons (zid (O 2 J) (O 9 J) h23 U51 (by rfl) J J) ?_;exact z8.nil
  intro a s _ L;refine zed (L':=[(3,(Pd.ptr En.cls b_)),(4,(Pd.box En.cls s0.w.heap.size g3 (0#256))),(6,(Pi v12))]) 2 L J (O 16 J) (O 15 J) (zpo h23) ty49 J J J (.k 3 (.cons (t:=4) J (Dis.bx d4) (.k 6 .nil))) fun s L=>?_;refine en' (H19 _ _ ?_);obtain ⟨h24,h⟩:=h;refine rg (sw 17 (zbk (O 6 J) oI h24 J J) L fun a s L=>?_);refine sw 6 (zd (O 17 J) J J) L fun a s L=>en' ?_;exact hKL15 k14 a s (Nat.lt_succ_self _) ⟨(Cl.setw a11 v12 (andI (Cl.w a11 v12) (Cl.w b_ v12))),(v12+1),L.keep (.cons (t:=2) J (fun _ _ h_=>h_) (.k 3 (.cons (t:=4) J (fun _ _ h_=>h_) (.k 6 .nil)))),d16,h⟩
 ·replace h:=h.2 hb_;refine wp_exit ?_;exact J8 a11 a s (L.keep (.cons (t:=2) J (fun _ _ h_=>h_) (.cons (t:=4) J (fun _ _ h_=>h_) .nil))) d16 h
theorem zon {a_:Cl} {r_:Int} (h:zcd a_ r_):Fn Tryz.prog 164 [(Pd.rep En.cls a_)] (Rq (Pi r_)):=by
 unfold zcd at h;refine zbx Tryz.func164 J Tryz.ntmps164 (by rfl) (by simp) fun s0 a L=>?_;refine wp_seq_k fun K1 H1=>rg (sw 1 (zcu (O 0 J) J J) L fun a s L=>?_);refine sw 2 (zb oI J J) L fun a s L=>en' (H1 _ _ ?_);refine wp_seq_k fun K2 H2=>rg (sw 3 (zb oI J J) L fun a s L=>?_);refine en' (H2 _ _ ?_);refine wp_seq_k fun K3 H3=>wp_seq_k fun K4 H4=>rg (sw 5 (zd oI J J) L fun a s L=>?_);refine en' (H4 _ _ ?_);refine wp_block ?_;have J6:∀(n5:Int) (a:Act) (s:St),Has N0 16 s0 a s [(3,(Pi n5))]→((zcd.j1 r_) n5)→K3 a s.w:=by
  intro n5 a s L h;unfold zcd.j1 at h;show K3 a s.w;refine H3 _ _ (wp_seq_k fun K7 H7=>?_);refine rg (sw 15 (zd (O 3 J) J J) L fun a s L=>?_);refine sw 2 (zb (O 15 J) J J) L fun a s L=>en' (H7 _ _ ?_);subst h;exact wp_ret (zdu J L J)
 obtain ⟨k10,h⟩:=h;refine lpg (fun k11 a s=>∃(n8:Int) (v9:Int),Has N0 16 s0 a s [(1,(Pd.ptr En.cls a_)),(3,(Pi n8)),(5,(Pi v9))]∧zcd.l1 a_ (zcd.j1 r_) k11 n8 v9) k10 ⟨0,0,L.keep (.k 1 (.k 3 (.k 5 .nil))),h⟩ ?_;rintro k11 a s ⟨n8,v9,L,h⟩ KL12 hKL12;cases k11 with
 | zero=>exact h.elim
 | succ k11=>
 unfold zcd.l1 at h;refine wp_seq_k fun K13 H13=>rg (sw 6 (zbz (O 5 J) oI J J) L fun a s L=>?_);refine en' (H13 _ _ ?_);refine wp_seq_k fun K14 H14=>cnd L J (fun hb_=>?_) (fun hb_=>?_)
 ·replace h:=h.1 hb_;refine wp_skip ?_;show K14 a s.w;refine H14 _ _ (wp_seq_k fun K15 H15=>?_);refine wp_block (wp_seq_k fun K16 H16=>?_);refine rg (sw 7 (zd (O 5 J) J J) L fun a s L=>?_);refine sw 4 (zb (O 7 J) J J) L fun a s L=>en' (H16 _ _ ?_);refine wp_seq_k fun K17 H17=>?_;obtain ⟨r18,h19,h⟩:=h;refine rg (sw 8 (zt zco (O 1 J) J J) L fun a s L=>?_);refine sw 9 (zd (O 4 J) J J) L fun a s L=>sw 10 (t_u8 (O 9 J) U3 U5 J J) L fun a s L=>sw 11 (zy (zit h19) (xs:=[.tmp 8,.tmp 10]) (.cons (O 8 J) (.cons (O 10 J) .nil)) J J) L fun a s L=>en' (H17 _ _ ?_);refine cnd L J (fun hb_=>?_) (fun hb_=>?_)
  ·obtain ⟨h20,h⟩:=h.1 hb_;refine rg (sw 12 (zd (O 3 J) J J) L fun a s L=>?_);refine sw 13 (zbk (O 12 J) oI h20 J J) L fun a s L=>sw 3 (zb (O 13 J) J J) L fun a s L=>en' (H15 _ _ ?_);obtain ⟨h21,h⟩:=h;refine rg (sw 14 (zbk (O 5 J) oI h21 J J) L fun a s L=>?_);refine sw 5 (zd (O 14 J) J J) L fun a s L=>en' ?_;exact hKL12 k11 a s (Nat.lt_succ_self _) ⟨(n8+1),(v9+1),L.keep (.k 1 (.k 3 (.k 5 .nil))),h⟩
  ·replace h:=h.2 hb_;refine wp_skip ?_;show K15 a s.w;refine H15 _ _ ?_;obtain ⟨h22,h⟩:=h;refine rg (sw 14 (zbk (O 5 J) oI h22 J J) L fun a s L=>?_);refine sw 5 (zd (O 14 J) J J) L fun a s L=>en' ?_;exact hKL12 k11 a s (Nat.lt_succ_self _) ⟨n8,(v9+1),L.keep (.k 1 (.k 3 (.k 5 .nil))),h⟩
 ·replace h:=h.2 hb_;refine wp_exit ?_;exact J6 n8 a s (L.keep (.k 3 .nil)) h
theorem zjt {a_:Cl} {r_:(Int × Bool)} (h:zb8 a_ r_):Fn Tryz.prog 104 [(Pd.rep En.cls a_)] (Rq2 (Pd.rep (En.int .u8) r_.1) (Pd.rep En.bool r_.2)):=by
 unfold zb8 at h;refine zbx Tryz.func104 J Tryz.ntmps104 (by rfl) (by simp) fun s0 a L=>?_;refine wp_seq_k fun K1 H1=>rg (sw 1 (zcu (O 0 J) J J) L fun a s L=>?_);refine sw 2 (zb (o_i (k:=.u8) (by decide)) J J) L fun a s L=>sw 3 (zb o_b J J) L fun a s L=>en' (H1 _ _ ?_);refine wp_seq_k fun K2 H2=>wp_seq_k fun K3 H3=>rg (sw 5 (zd oI J J) L fun a s L=>?_);refine en' (H3 _ _ ?_);refine wp_block ?_;have J4:∀(a:Act) (s:St),Has N0 15 s0 a s []→((zb8.j1 r_))→K2 a s.w:=by
  intro a s L h;unfold zb8.j1 at h;show K2 a s.w;refine H2 _ _ (wp_seq_k fun K5 H5=>?_);refine rg (sw 2 (zb (o_i (k:=.u8) (by decide)) J J) L fun a s L=>?_);refine sw 3 (zb o_b J J) L fun a s L=>en' (H5 _ _ ?_);subst h;exact wp_ret (ret2 J L J J)
 obtain ⟨k7,h⟩:=h;refine lpg (fun k8 a s=>∃(v6:Int),Has N0 15 s0 a s [(1,(Pd.ptr En.cls a_)),(5,(Pi v6))]∧zb8.l1 a_ r_ (zb8.j1 r_) k8 v6) k7 ⟨0,L.keep (.k 1 (.k 5 .nil)),h⟩ ?_;rintro k8 a s ⟨v6,L,h⟩ KL9 hKL9;cases k8 with
 | zero=>exact h.elim
 | succ k8=>
 unfold zb8.l1 at h;refine wp_seq_k fun K10 H10=>rg (sw 6 (zbz (O 5 J) oI J J) L fun a s L=>?_);refine en' (H10 _ _ ?_);refine wp_seq_k fun K11 H11=>cnd L J (fun hb_=>?_) (fun hb_=>?_)
 ·replace h:=h.1 hb_;refine wp_skip ?_;show K11 a s.w;refine H11 _ _ (wp_seq_k fun K12 H12=>?_);refine wp_block (wp_seq_k fun K13 H13=>?_);refine rg (sw 7 (zd (O 5 J) J J) L fun a s L=>?_);refine sw 4 (zb (O 7 J) J J) L fun a s L=>en' (H13 _ _ ?_);refine wp_seq_k fun K14 H14=>?_;obtain ⟨r15,h16,h⟩:=h;refine rg (sw 8 (zt zco (O 1 J) J J) L fun a s L=>?_);refine sw 9 (zd (O 4 J) J J) L fun a s L=>sw 10 (t_u8 (O 9 J) U3 U5 J J) L fun a s L=>sw 11 (zy (zit h16) (xs:=[.tmp 8,.tmp 10]) (.cons (O 8 J) (.cons (O 10 J) .nil)) J J) L fun a s L=>en' (H14 _ _ ?_);refine cnd L J (fun hb_=>?_) (fun hb_=>?_)
  ·replace h:=h.1 hb_;refine wp_seq_k fun K17 H17=>rg (sw 12 (zd (O 4 J) J J) L fun a s L=>?_);refine sw 13 (t_u8 (O 12 J) U3 U5 J J) L fun a s L=>sw 2 (zb (O 13 J) J J) L fun a s L=>sw 3 (zb o_b J J) L fun a s L=>en' (H17 _ _ ?_);subst h;exact wp_ret (ret2 J L J J)
  ·replace h:=h.2 hb_;refine wp_skip ?_;show K12 a s.w;refine H12 _ _ ?_;obtain ⟨h18,h⟩:=h;refine rg (sw 14 (zbk (O 5 J) oI h18 J J) L fun a s L=>?_);refine sw 5 (zd (O 14 J) J J) L fun a s L=>en' ?_;exact hKL9 k8 a s (Nat.lt_succ_self _) ⟨(v6+1),L.keep (.k 1 (.k 5 .nil)),h⟩
 ·replace h:=h.2 hb_;refine wp_exit ?_;exact J4 a s (L.keep .nil) h
def zd8 (a_:Cl) (r_:Int):Prop:=∃r3:(Int × Bool),zb8 a_ r3∧r_=r3.1
def zez (a_:Cl) (b_:Cl) (cap0_:(Cl × Int→Prop)) (r_:Int):Prop:=∃r3:Int,cap0_ (a_,r3)∧∃r5:Int,cap0_ (b_,r5)∧(InR .i64 (r3-r5))∧r_=r3-r5
def zbc.j1 (r_:(List Cl)) (out5:(List Cl)):Prop:=∃r14:(List Cl),zbn out5 (fun q_=>zez q_.1 q_.2.1 (fun q_=>zd8 q_.1 q_.2) q_.2.2) r14∧r_=r14
def zbc.j2 (L1_:(List Cl)→Int→Prop) (v19:Int) (out38:(List Cl)):Prop:=(InR .i64 (v19+1))∧L1_ out38 (v19+1)
def zbc.l2 (r32:Cl) (r36:Cl) (X2:(List Cl)→Prop):Nat→(List Cl)→Int→Prop
 | 0,_,_=>False
 | k_0+1,out42,v44=>((decide (v44<([r32,r36].length:Int)))=true→∃e52:Cl,at? [r32,r36] v44=some e52∧∃r57:Int,zcd e52 r57∧((decide (0<r57))=true→(out42.length+[e52].length≤2147483648)∧(InR .i64 (v44+1))∧zbc.l2 r32 r36 X2 k_0 (out42++[e52]) (v44+1))∧((decide (0<r57))=false→(InR .i64 (v44+1))∧zbc.l2 r32 r36 X2 k_0 out42 (v44+1)))∧((decide (v44<([r32,r36].length:Int)))=false→X2 out42)
def zbc.l1 (parts_:(List Cl)) (a_:Cl) (X1:(List Cl)→Prop):Nat→(List Cl)→Int→Prop
 | 0,_,_=>False
 | k_0+1,out17,v19=>((decide (v19<(parts_.length:Int)))=true→∃e27:Cl,at? parts_ v19=some e27∧∃r32:Cl,zct e27 a_ r32∧∃r34:Cl,zdc a_ r34∧∃r36:Cl,zct e27 r34 r36∧∃k45,zbc.l2 r32 r36 (zbc.j2 (zbc.l1 parts_ a_ X1 k_0) v19) k45 out17 0)∧((decide (v19<(parts_.length:Int)))=false→X1 out17)
def zbc (parts_:(List Cl)) (a_:Cl) (r_:(List Cl)):Prop:=∃k20,zbc.l1 parts_ a_ (zbc.j1 r_) k20 ([]:(List Cl)) 0
def zch.j1 (r_:(List Cl)) (out8:(List Cl)):Prop:=r_=out8
def zch.l1 (list_:(List Cl)) (X1:(List Cl)→Prop):Nat→(List Cl)→Int→Prop
 | 0,_,_=>False
 | k_0+1,out12,v14=>((decide (v14<(list_.length:Int)))=true→∃e22:Cl,at? list_ v14=some e22∧∃r28:(List Cl),zbc out12 e22 r28∧(InR .i64 (v14+1))∧zch.l1 list_ X1 k_0 r28 (v14+1))∧((decide (v14<(list_.length:Int)))=false→X1 out12)
def zch (list_:(List Cl)) (r_:(List Cl)):Prop:=∃r3:Cl,zdc (0#256) r3∧∃k15,zch.l1 list_ (zch.j1 r_) k15 [r3] 0
def zci.j1 (r_:(List Int)) (out7:(List Int)):Prop:=r_=out7
def zci.l1 (r5:(List Cl)) (X1:(List Int)→Prop):Nat→(List Int)→Int→Prop
 | 0,_,_=>False
 | k_0+1,out11,v13=>((decide (v13<(r5.length:Int)))=true→∃e21:Cl,at? r5 v13=some e21∧∃r26:(Int × Bool),zb8 e21 r26∧(out11.length+[r26.1].length≤2147483648)∧(InR .i64 (v13+1))∧zci.l1 r5 X1 k_0 (out11++[r26.1]) (v13+1))∧((decide (v13<(r5.length:Int)))=false→X1 out11)
def zci (list_:(List Cl)) (r_:(List Int)):Prop:=∃r5:(List Cl),zch list_ r5∧∃k14,zci.l1 r5 (zci.j1 r_) k14 ([]:(List Int)) 0
def zb7.j1 (r_:Bool):Prop:=r_=true
def zb7.l1 (a_:(List Int)) (b_:(List Int)) (r_:Bool) (X1:Prop):Nat→Int→Prop
 | 0,_=>False
 | k_0+1,i9=>((decide (i9<(a_.length:Int)))=true→∃e17:Int,at? a_ i9=some e17∧∃e19:Int,at? b_ i9=some e19∧(((e17 != e19))=true→r_=false)∧(((e17 != e19))=false→(InR .i64 (i9+1))∧zb7.l1 a_ b_ r_ X1 k_0 (i9+1)))∧((decide (i9<(a_.length:Int)))=false→X1)
def zb7 (a_:(List Int)) (b_:(List Int)) (r_:Bool):Prop:=((((a_.length:Int) != (b_.length:Int)))=true→r_=false)∧((((a_.length:Int) != (b_.length:Int)))=false→∃k10,zb7.l1 a_ b_ r_ (zb7.j1 r_) k10 0)
set_option maxRecDepth 100000
theorem zk7 {a_:Cl} {r_:Int} (h:zd8 a_ r_):Fn Tryz.prog 165 [(Pd.rep En.cls a_)] (Rq (Pi r_)):=by
 unfold zd8 at h;refine zbx Tryz.func165 J Tryz.ntmps165 (by rfl) (by simp) fun s0 a L=>?_;refine wp_seq_k fun K1 H1=>rg (sw 1 (zcu (O 0 J) J J) L fun a s L=>?_);refine sw 2 (zb oI J J) L fun a s L=>en' (H1 _ _ ?_);refine wp_seq_k fun K2 H2=>?_;obtain ⟨r3,h4,h⟩:=h;refine rg (sw 6 (zt zco (O 1 J) J J) L fun a s L=>?_);refine sw 7 (zy ((zjt h4).tup) (xs:=[.tmp 6]) (.cons (O 6 J) .nil) J J) L fun a s L=>sw 5 (zd (O 7 J) J J) L fun a s L=>sw 8 (zj6 (O 5 J) J J) L fun a s L=>sw 9 (zie (O 5 J) J J) L fun a s L=>sw 3 (zb (O 8 J) J J) L fun a s L=>sw 4 (zb (O 9 J) J J) L fun a s L=>en' (H2 _ _ ?_);refine wp_seq_k fun K5 H5=>rg (sw 10 (zd (O 3 J) J J) L fun a s L=>?_);refine sw 11 (t_up (O 10 J) (by decide) U5 U3 J J) L fun a s L=>sw 2 (zb (O 11 J) J J) L fun a s L=>en' (H5 _ _ ?_);subst h;exact wp_ret (zdu J L J)
theorem zk6 {a_:Cl} {b_:Cl} {cap0_:(Cl × Int→Prop)} {r_:Int} (h:zez a_ b_ cap0_ r_):Fn Tryz.prog 167 [(Pd.rep En.cls a_),(Pd.rep En.cls b_),(Pd.ptr EnF209 cap0_)] (Rq (Pi r_)):=by
 unfold zez at h;refine zbx Tryz.func167 J Tryz.ntmps167 (by rfl) (by simp) fun s0 a L=>?_;refine wp_seq_k fun K1 H1=>rg (sw 3 (zcu (O 0 J) J J) L fun a s L=>?_);refine sw 4 (zcu (O 1 J) J J) L fun a s L=>sw 5 (zb oI J J) L fun a s L=>en' (H1 _ _ ?_);refine wp_seq_k fun K2 H2=>?_;obtain ⟨r3,h4,r5,h6,h7,h⟩:=h;refine rda zcm 7 [(Pd.rep EnF209 cap0_),(Pd.rep En.cls a_),(Pi r3),(Pd.rep EnF209 cap0_),(Pd.rep En.cls b_),(Pi r5),(Pi (r3-r5))] L (by kernel_rfl) J J ?_ ?_
 ·refine z8.cons (zt ty209 (O 2 J) J J) ?_;refine z8.cons (zt zco (O 3 J) J J) (z8.cons (zfo (q:=(a_,r3)) (O 6 J) h4 (xs:=[.tmp 7]) (.cons (O 7 J) .nil) (fun _ _ _ h_=>h_) J J) ?_);refine z8.cons (zt ty209 (O 2 J) J J) (z8.cons (zt zco (O 4 J) J J) ?_);refine z8.cons (zfo (q:=(b_,r5)) (O 9 J) h6 (xs:=[.tmp 10]) (.cons (O 10 J) .nil) (fun _ _ _ h_=>h_) J J) (z8.cons (zdy (O 8 J) (O 11 J) h7 J J) ?_);exact z8.nil
 intro a s _ L;refine sw 5 (zb (O 12 J) J J) L fun a s L=>en' (H2 _ _ ?_);subst h;exact wp_ret (zdu J L J)
theorem zmt {parts_:(List Cl)} {a_:Cl} {r_:(List Cl)} (h:zbc parts_ a_ r_):Fn Tryz.prog 136 [(Pd.rep (En.slice En.cls) parts_),(Pd.rep En.cls a_)] (Ro En.cls 51 r_):=by
 unfold zbc at h;refine zbx Tryz.func136 J Tryz.ntmps136 (by rfl) (by simp) fun s0 a L=>?_;refine wp_seq_k fun K1 H1=>rg (sw 3 (zcu (O 1 J) J J) L fun a s L=>?_);refine sw 4 (zb (zdg (E:=En.cls) (N:=s0.w.heap.size) (te:=51)) J J) L fun a s L=>en' (H1 _ _ ?_);refine wp_seq_k fun K2 H2=>rg (sw 5 (zb (zdg (E:=En.cls) (N:=s0.w.heap.size) (te:=51)) J J) L fun a s L=>?_);refine en' (H2 _ _ ?_);refine wp_seq_k fun K3 H3=>wp_seq_k fun K4 H4=>rg (sw 11 (zd (O 0 J) J J) L fun a s L=>?_);refine sw 12 (zc8 (O 11 J) U36 J J) L fun a s L=>sw 13 (zd oI J J) L fun a s L=>en' (H4 _ _ ?_);refine wp_block ?_;have J7:∀(out5:(List Cl)) (og6:Option Nat) (a:Act) (s:St),Has N0 43 s0 a s [(5,(Pd.row En.cls s0.w.heap.size 51 og6 out5))]→((zbc.j1 r_) out5)→K3 a s.w:=by
  intro out5 og6 a s L h;unfold zbc.j1 at h;show K3 a s.w;refine H3 _ _ (wp_seq_k fun K8 H8=>?_);refine rg ?_;have lt_d10:=L.rlt 5 rfl;refine zbf EnF209 (z:=(fun _=>False)) 10 L tyz209 J J J J fun a s g9 hg_ L=>?_;have d10:Dis (some g9) og6:=Dis.newg hg_ lt_d10;refine zby (L':=[(5,(Pd.row En.cls s0.w.heap.size 51 og6 out5))]) 10 L J (o_q (Pd.rep EnF209 (fun q_=>zd8 q_.1 q_.2)) (o_fun (ze6 Tryz.func165 J (by rfl)) (fun q_ h_=>zk7 h_))) ty209 J J J (.cons (t:=5) J (Dis.ow (Dis.symm d10)) .nil) fun s L=>?_;refine en' (H8 _ _ ?_);refine wp_seq_k fun K11 H11=>?_;obtain ⟨s13,h12,L⟩:=L.freezeb (L':=[(5,(Pd.row En.cls s0.w.heap.size 51 og6 out5))]) 10 rfl (.cons (t:=5) rfl (Dis.ow (Dis.symm d10)) .nil);rw [← h12];clear h12;generalize s13=s at *;obtain ⟨r14,h15,h⟩:=h;refine rg (sw 39 (zd (O 5 J) J J) L fun a s L=>?_);refine sw 40 (t_q (Pd.rep EnF211 (fun q_=>zez q_.1 q_.2.1 (fun q_=>zd8 q_.1 q_.2) q_.2.2)) (t_mkfun (cs:=[.tmp 10]) (.cons (O 10 J) .nil) (ze6 Tryz.func167 J (by rfl)) (zme enc_ptr zq0) (fun q_ h_=>zk6 h_) J J)) L fun a s L=>zj8 (L':=[(5,(Pd.row En.cls s0.w.heap.size 51 og6 r14))]) 41 (fun v0=>zdz v0 h15) L (O 39 J) (zs:=[.tmp 40]) (.cons (O 40 J) .nil) J J J J (.turn (t:=5) J .nil) fun a s L=>?_;refine en' (H11 _ _ ?_);refine wp_seq_k fun K16 H16=>rg (sw 42 (zd (O 5 J) J J) L fun a s L=>?_);refine sw 4 (zb (O 42 J) J J) L fun a s L=>en' (H16 _ _ ?_);subst h;exact wp_ret (zjn J L J)
 obtain ⟨k20,h⟩:=h;refine lpg (fun k21 a s=>∃(out17:(List Cl)) (v19:Int) (og18:Option Nat),Has N0 43 s0 a s [(3,(Pd.ptr En.cls a_)),(5,(Pd.row En.cls s0.w.heap.size 51 og18 out17)),(11,(Pd.rep (En.slice En.cls) parts_)),(12,(Pi (parts_.length:Int))),(13,(Pi v19))]∧zbc.l1 parts_ a_ (zbc.j1 r_) k21 out17 v19) k20 ⟨([]:(List Cl)),0,none,L.keep (.k 3 (.cons (t:=5) J (fun _ _ h_=>h_) (.k 11 (.k 12 (.k 13 .nil))))),h⟩ ?_;rintro k21 a s ⟨out17,v19,og18,L,h⟩ KL22 hKL22;cases k21 with
 | zero=>exact h.elim
 | succ k21=>
 unfold zbc.l1 at h;refine wp_seq_k fun K23 H23=>rg (sw 14 (zbz (O 13 J) (O 12 J) J J) L fun a s L=>?_);refine en' (H23 _ _ ?_);refine wp_seq_k fun K24 H24=>cnd L J (fun hb_=>?_) (fun hb_=>?_)
 ·replace h:=h.1 hb_;refine wp_skip ?_;show K24 a s.w;refine H24 _ _ (wp_seq_k fun K25 H25=>?_);refine wp_block (wp_seq_k fun K26 H26=>?_);obtain ⟨e27,h28,h⟩:=h;refine rg (sw 15 (zde (O 11 J) (O 13 J) h28 U36 zco J J) L fun a s L=>?_);refine sw 16 (zt zco (O 15 J) J J) L fun a s L=>?_;have lt_d30:=L.rlt 5 rfl;refine zbf En.cls (z:=(0#256)) 7 L zj4 J J J J fun a s g29 hg_ L=>?_;have d30:Dis (some g29) og18:=Dis.newg hg_ lt_d30;refine zby (L':=[(3,(Pd.ptr En.cls a_)),(5,(Pd.row En.cls s0.w.heap.size 51 og18 out17)),(11,(Pd.rep (En.slice En.cls) parts_)),(12,(Pi (parts_.length:Int))),(13,(Pi v19))]) 7 L J (O 16 J) zco J J J (.k 3 (.cons (t:=5) J (Dis.ow (Dis.symm d30)) (.k 11 (.k 12 (.k 13 .nil))))) fun s L=>?_;refine en' (H26 _ _ ?_);refine wp_seq_k fun K31 H31=>?_;obtain ⟨r32,h33,r34,h35,r36,h37,h⟩:=h;refine rda zcm 10 [(Pd.rep En.cls e27),(Pd.rep En.cls a_),(Pd.rep En.cls r32),(Pd.rep En.cls e27),(Pd.rep En.cls a_),(Pd.rep En.cls r34),(Pd.rep En.cls r36),(Pd.rep (En.slice En.cls) [r32,r36]),(Pi ([r32,r36].length:Int)),(Pi 0)] L (by kernel_rfl) J J ?_ ?_
  ·refine z8.cons (zbr zco (O 7 J) J J) ?_;refine z8.cons (zt zco (O 3 J) J J) (z8.cons (zy (zkv h33) (xs:=[.tmp 17,.tmp 18]) (.cons (O 17 J) (.cons (O 18 J) .nil)) J J) ?_);refine z8.cons (zbr zco (O 7 J) J J) (z8.cons (zt zco (O 3 J) J J) ?_);refine z8.cons (zy (zlu h35) (xs:=[.tmp 21]) (.cons (O 21 J) .nil) J J) (z8.cons (zy (zkv h37) (xs:=[.tmp 20,.tmp 22]) (.cons (O 20 J) (.cons (O 22 J) .nil)) J J) ?_);refine z8.cons (zec (xs:=[.tmp 19,.tmp 23]) (.cons (O 19 J) (.cons (O 23 J) .nil)) U36 zco J J (by decide) J J) (z8.cons (zc8 (O 24 J) U36 J J) ?_);refine z8.cons (zd oI J J) ?_;exact z8.nil
  intro a s _ L;refine en' (H31 _ _ ?_);refine wp_block ?_;have J40:∀(out38:(List Cl)) (og39:Option Nat) (a:Act) (s:St),Has N0 43 s0 a s [(3,(Pd.ptr En.cls a_)),(5,(Pd.row En.cls s0.w.heap.size 51 og39 out38)),(11,(Pd.rep (En.slice En.cls) parts_)),(12,(Pi (parts_.length:Int))),(13,(Pi v19))]→((zbc.j2 (zbc.l1 parts_ a_ (zbc.j1 r_) k21) v19) out38)→K25 a s.w:=by
   intro out38 og39 a s L h;unfold zbc.j2 at h;show K25 a s.w;refine H25 _ _ ?_;obtain ⟨h41,h⟩:=h;refine rg (sw 38 (zbk (O 13 J) oI h41 J J) L fun a s L=>?_);refine sw 13 (zd (O 38 J) J J) L fun a s L=>en' ?_;exact hKL22 k21 a s (Nat.lt_succ_self _) ⟨out38,(v19+1),og39,L.keep (.k 3 (.cons (t:=5) J (fun _ _ h_=>h_) (.k 11 (.k 12 (.k 13 .nil))))),h⟩
  obtain ⟨k45,h⟩:=h;refine lpg (fun k46 a s=>∃(out42:(List Cl)) (v44:Int) (og43:Option Nat),Has N0 43 s0 a s [(3,(Pd.ptr En.cls a_)),(5,(Pd.row En.cls s0.w.heap.size 51 og43 out42)),(11,(Pd.rep (En.slice En.cls) parts_)),(12,(Pi (parts_.length:Int))),(13,(Pi v19)),(24,(Pd.rep (En.slice En.cls) [r32,r36])),(25,(Pi ([r32,r36].length:Int))),(26,(Pi v44))]∧zbc.l2 r32 r36 (zbc.j2 (zbc.l1 parts_ a_ (zbc.j1 r_) k21) v19) k46 out42 v44) k45 ⟨out17,0,og18,L.keep (.k 3 (.cons (t:=5) J (fun _ _ h_=>h_) (.k 11 (.k 12 (.k 13 (.k 24 (.k 25 (.k 26 .nil)))))))),h⟩ ?_;rintro k46 a s ⟨out42,v44,og43,L,h⟩ KL47 hKL47;cases k46 with
  | zero=>exact h.elim
  | succ k46=>
  unfold zbc.l2 at h;refine wp_seq_k fun K48 H48=>rg (sw 27 (zbz (O 26 J) (O 25 J) J J) L fun a s L=>?_);refine en' (H48 _ _ ?_);refine wp_seq_k fun K49 H49=>cnd L J (fun hb_=>?_) (fun hb_=>?_)
  ·replace h:=h.1 hb_;refine wp_skip ?_;show K49 a s.w;refine H49 _ _ (wp_seq_k fun K50 H50=>?_);refine wp_block (wp_seq_k fun K51 H51=>?_);obtain ⟨e52,h53,h⟩:=h;refine rg (sw 28 (zde (O 24 J) (O 26 J) h53 U36 zco J J) L fun a s L=>?_);refine sw 29 (zt zco (O 28 J) J J) L fun a s L=>?_;have lt_d55:=L.rlt 5 rfl;refine zbf En.cls (z:=(0#256)) 9 L zj4 J J J J fun a s g54 hg_ L=>?_;have d55:Dis (some g54) og43:=Dis.newg hg_ lt_d55;refine zby (L':=[(3,(Pd.ptr En.cls a_)),(5,(Pd.row En.cls s0.w.heap.size 51 og43 out42)),(11,(Pd.rep (En.slice En.cls) parts_)),(12,(Pi (parts_.length:Int))),(13,(Pi v19)),(24,(Pd.rep (En.slice En.cls) [r32,r36])),(25,(Pi ([r32,r36].length:Int))),(26,(Pi v44))]) 9 L J (O 29 J) zco J J J (.k 3 (.cons (t:=5) J (Dis.ow (Dis.symm d55)) (.k 11 (.k 12 (.k 13 (.k 24 (.k 25 (.k 26 .nil)))))))) fun s L=>?_;refine en' (H51 _ _ ?_);refine wp_seq_k fun K56 H56=>?_;obtain ⟨r57,h58,h⟩:=h;refine rg (sw 30 (zbr zco (O 9 J) J J) L fun a s L=>?_);refine sw 31 (zy (zon h58) (xs:=[.tmp 30]) (.cons (O 30 J) .nil) J J) L fun a s L=>sw 32 (zhd (O 31 J) oI J J) L fun a s L=>en' (H56 _ _ ?_);refine cnd L J (fun hb_=>?_) (fun hb_=>?_)
   ·obtain ⟨h59,h⟩:=h.1 hb_;refine rg (sw 33 (zd (O 5 J) J J) L fun a s L=>?_);refine sw 34 (zbr zco (O 9 J) J J) L fun a s L=>sw 35 (zec (xs:=[.tmp 34]) (.cons (O 34 J) .nil) U36 zco J J (by decide) J J) L fun a s L=>zev (L':=[(3,(Pd.ptr En.cls a_)),(11,(Pd.rep (En.slice En.cls) parts_)),(12,(Pi (parts_.length:Int))),(13,(Pi v19)),(24,(Pd.rep (En.slice En.cls) [r32,r36])),(25,(Pi ([r32,r36].length:Int))),(26,(Pi v44))]) 36 L (O 33 J) (O 35 J) U36 zco h59 J J J J (.k 3 (.k 11 (.k 12 (.k 13 (.k 24 (.k 25 (.k 26 .nil))))))) fun a s og60 hg_ L=>?_;refine sw 5 (zb (O 36 J) J J) L fun a s L=>en' (H50 _ _ ?_);obtain ⟨h61,h⟩:=h;refine rg (sw 37 (zbk (O 26 J) oI h61 J J) L fun a s L=>?_);refine sw 26 (zd (O 37 J) J J) L fun a s L=>en' ?_;exact hKL47 k46 a s (Nat.lt_succ_self _) ⟨(out42++[e52]),(v44+1),og60,L.keep (.k 3 (.cons (t:=5) J (fun _ _ h_=>h_) (.k 11 (.k 12 (.k 13 (.k 24 (.k 25 (.k 26 .nil)))))))),h⟩
   ·replace h:=h.2 hb_;refine wp_skip ?_;show K50 a s.w;refine H50 _ _ ?_;obtain ⟨h62,h⟩:=h;refine rg (sw 37 (zbk (O 26 J) oI h62 J J) L fun a s L=>?_);refine sw 26 (zd (O 37 J) J J) L fun a s L=>en' ?_;exact hKL47 k46 a s (Nat.lt_succ_self _) ⟨out42,(v44+1),og43,L.keep (.k 3 (.cons (t:=5) J (fun _ _ h_=>h_) (.k 11 (.k 12 (.k 13 (.k 24 (.k 25 (.k 26 .nil)))))))),h⟩
  ·replace h:=h.2 hb_;refine wp_exit ?_;exact J40 out42 og43 a s (L.keep (.k 3 (.cons (t:=5) J (fun _ _ h_=>h_) (.k 11 (.k 12 (.k 13 .nil)))))) h
 ·replace h:=h.2 hb_;refine wp_exit ?_;exact J7 out17 og18 a s (L.keep (.cons (t:=5) J (fun _ _ h_=>h_) .nil)) h
theorem zn6 {list_:(List Cl)} {r_:(List Cl)} (h:zch list_ r_):Fn Tryz.prog 103 [(Pd.rep (En.slice En.cls) list_)] (Ro En.cls 51 r_):=by
 unfold zch at h;refine zbx Tryz.func103 J Tryz.ntmps103 (by rfl) (by simp) fun s0 a L=>?_;refine wp_seq_k fun K1 H1=>rg (sw 2 (zb (zdg (E:=En.cls) (N:=s0.w.heap.size) (te:=51)) J J) L fun a s L=>?_);refine en' (H1 _ _ ?_);refine wp_seq_k fun K2 H2=>?_;obtain ⟨r3,h4,h⟩:=h;refine rg (sw 6 (t_bcls (x:=(0#256)) U51 (by rfl) zj4 (fun _=>by kernel_rfl) J J) L fun a s L=>?_);refine sw 7 (zy (zlu h4) (xs:=[.tmp 6]) (.cons (O 6 J) .nil) J J) L fun a s L=>zfp (xs:=[.tmp 7]) 8 L (.cons (O 7 J) .nil) U36 zco J J (by decide) J J J J fun a s g5 hg_ L=>?_;refine sw 3 (zb (O 8 J) J J) L fun a s L=>en' (H2 _ _ ?_);refine wp_seq_k fun K6 H6=>wp_seq_k fun K7 H7=>rg (sw 9 (zd (O 0 J) J J) L fun a s L=>?_);refine sw 10 (zc8 (O 9 J) U36 J J) L fun a s L=>sw 11 (zd oI J J) L fun a s L=>en' (H7 _ _ ?_);refine wp_block ?_;have J10:∀(out8:(List Cl)) (og9:Option Nat) (a:Act) (s:St),Has N0 20 s0 a s [(3,(Pd.row En.cls s0.w.heap.size 51 og9 out8))]→((zch.j1 r_) out8)→K6 a s.w:=by
  intro out8 og9 a s L h;unfold zch.j1 at h;show K6 a s.w;refine H6 _ _ (wp_seq_k fun K11 H11=>?_);refine rg (sw 19 (zd (O 3 J) J J) L fun a s L=>?_);refine sw 2 (zb (O 19 J) J J) L fun a s L=>en' (H11 _ _ ?_);subst h;exact wp_ret (zjn J L J)
 obtain ⟨k15,h⟩:=h;refine lpg (fun k16 a s=>∃(out12:(List Cl)) (v14:Int) (og13:Option Nat),Has N0 20 s0 a s [(3,(Pd.row En.cls s0.w.heap.size 51 og13 out12)),(9,(Pd.rep (En.slice En.cls) list_)),(10,(Pi (list_.length:Int))),(11,(Pi v14))]∧zch.l1 list_ (zch.j1 r_) k16 out12 v14) k15 ⟨[r3],0,(some g5),L.keep (.cons (t:=3) J (fun _ _ h_=>h_) (.k 9 (.k 10 (.k 11 .nil)))),h⟩ ?_;rintro k16 a s ⟨out12,v14,og13,L,h⟩ KL17 hKL17;cases k16 with
 | zero=>exact h.elim
 | succ k16=>
 unfold zch.l1 at h;refine wp_seq_k fun K18 H18=>rg (sw 12 (zbz (O 11 J) (O 10 J) J J) L fun a s L=>?_);refine en' (H18 _ _ ?_);refine wp_seq_k fun K19 H19=>cnd L J (fun hb_=>?_) (fun hb_=>?_)
 ·replace h:=h.1 hb_;refine wp_skip ?_;show K19 a s.w;refine H19 _ _ (wp_seq_k fun K20 H20=>?_);refine wp_block (wp_seq_k fun K21 H21=>?_);obtain ⟨e22,h23,h⟩:=h;refine rg (sw 13 (zde (O 9 J) (O 11 J) h23 U36 zco J J) L fun a s L=>?_);refine sw 14 (zt zco (O 13 J) J J) L fun a s L=>?_;have lt_d25:=L.rlt 3 rfl;refine zbf En.cls (z:=(0#256)) 5 L zj4 J J J J fun a s g24 hg_ L=>?_;have d25:Dis (some g24) og13:=Dis.newg hg_ lt_d25;refine zby (L':=[(3,(Pd.row En.cls s0.w.heap.size 51 og13 out12)),(9,(Pd.rep (En.slice En.cls) list_)),(10,(Pi (list_.length:Int))),(11,(Pi v14))]) 5 L J (O 14 J) zco J J J (.cons (t:=3) J (Dis.ow (Dis.symm d25)) (.k 9 (.k 10 (.k 11 .nil)))) fun s L=>?_;refine en' (H21 _ _ ?_);obtain ⟨s27,h26,L⟩:=L.freeze (L':=[(5,(Pd.box En.cls s0.w.heap.size g24 e22)),(9,(Pd.rep (En.slice En.cls) list_)),(10,(Pi (list_.length:Int))),(11,(Pi v14))]) 3 rfl (.cons (t:=5) rfl (Dis.bx d25) (.cons (t:=9) rfl nE (.cons (t:=10) rfl nE (.cons (t:=11) rfl nE .nil))));rw [← h26];clear h26;generalize s27=s at *;obtain ⟨r28,h29,h⟩:=h;refine rg (sw 15 (zd (O 3 J) J J) L fun a s L=>?_);refine sw 16 (zbr zco (O 5 J) J J) L fun a s L=>?_;have lt_d31:=L.blt 5 rfl;refine zfx 17 L (zmt h29) (xs:=[.tmp 15,.tmp 16]) (.cons (O 15 J) (.cons (O 16 J) .nil)) J J J J fun a s og30 hg_ L=>?_;have d31:Dis og30 (some g24):=Dis.new hg_ lt_d31;refine sw 3 (zb (O 17 J) J J) L fun a s L=>en' (H20 _ _ ?_);obtain ⟨h32,h⟩:=h;refine rg (sw 18 (zbk (O 11 J) oI h32 J J) L fun a s L=>?_);refine sw 11 (zd (O 18 J) J J) L fun a s L=>en' ?_
  exact hKL17 k16 a s (Nat.lt_succ_self _) ⟨r28,(v14+1),og30,L.keep (.cons (t:=3) J (fun _ _ h_=>h_) (.k 9 (.k 10 (.k 11 .nil)))),h⟩
 ·replace h:=h.2 hb_;refine wp_exit ?_;exact J10 out12 og13 a s (L.keep (.cons (t:=3) J (fun _ _ h_=>h_) .nil)) h
theorem zn8 {list_:(List Cl)} {r_:(List Int)} (h:zci list_ r_):Fn Tryz.prog 65 [(Pd.rep (En.slice En.cls) list_)] (Ro (En.int .u8) 5 r_):=by
 unfold zci at h;refine zbx Tryz.func65 J Tryz.ntmps65 (by rfl) (by simp) fun s0 a L=>?_;refine wp_seq_k fun K1 H1=>rg (sw 2 (zb (zdg (E:=(En.int .u8)) (N:=s0.w.heap.size) (te:=5)) J J) L fun a s L=>?_);refine en' (H1 _ _ ?_);refine wp_seq_k fun K2 H2=>rg (sw 3 (zb (zdg (E:=(En.int .u8)) (N:=s0.w.heap.size) (te:=5)) J J) L fun a s L=>?_);refine en' (H2 _ _ ?_);refine wp_seq_k fun K3 H3=>wp_seq_k fun K4 H4=>?_;obtain ⟨r5,h6,h⟩:=h;refine rg (sw 8 (zd (O 0 J) J J) L fun a s L=>?_);refine sw 9 (zy ((zn6 h6).frz) (xs:=[.tmp 8]) (.cons (O 8 J) .nil) J J) L fun a s L=>sw 10 (zc8 (O 9 J) U36 J J) L fun a s L=>sw 11 (zd oI J J) L fun a s L=>en' (H4 _ _ ?_);refine wp_block ?_;have J9:∀(out7:(List Int)) (og8:Option Nat) (a:Act) (s:St),Has N0 26 s0 a s [(3,(Pd.row (En.int .u8) s0.w.heap.size 5 og8 out7))]→((zci.j1 r_) out7)→K3 a s.w:=by
  intro out7 og8 a s L h;unfold zci.j1 at h;show K3 a s.w;refine H3 _ _ (wp_seq_k fun K10 H10=>?_);refine rg (sw 25 (zd (O 3 J) J J) L fun a s L=>?_);refine sw 2 (zb (O 25 J) J J) L fun a s L=>en' (H10 _ _ ?_);subst h;exact wp_ret (zjn J L J)
 obtain ⟨k14,h⟩:=h;refine lpg (fun k15 a s=>∃(out11:(List Int)) (v13:Int) (og12:Option Nat),Has N0 26 s0 a s [(3,(Pd.row (En.int .u8) s0.w.heap.size 5 og12 out11)),(9,(Pd.rep (En.slice En.cls) r5)),(10,(Pi (r5.length:Int))),(11,(Pi v13))]∧zci.l1 r5 (zci.j1 r_) k15 out11 v13) k14 ⟨([]:(List Int)),0,none,L.keep (.cons (t:=3) J (fun _ _ h_=>h_) (.k 9 (.k 10 (.k 11 .nil)))),h⟩ ?_;rintro k15 a s ⟨out11,v13,og12,L,h⟩ KL16 hKL16;cases k15 with
 | zero=>exact h.elim
 | succ k15=>
 unfold zci.l1 at h;refine wp_seq_k fun K17 H17=>rg (sw 12 (zbz (O 11 J) (O 10 J) J J) L fun a s L=>?_);refine en' (H17 _ _ ?_);refine wp_seq_k fun K18 H18=>cnd L J (fun hb_=>?_) (fun hb_=>?_)
 ·replace h:=h.1 hb_;refine wp_skip ?_;show K18 a s.w;refine H18 _ _ (wp_seq_k fun K19 H19=>?_);refine wp_block (wp_seq_k fun K20 H20=>?_);obtain ⟨e21,h22,h⟩:=h;refine rg (sw 13 (zde (O 9 J) (O 11 J) h22 U36 zco J J) L fun a s L=>?_);refine sw 14 (zt zco (O 13 J) J J) L fun a s L=>?_;have lt_d24:=L.rlt 3 rfl;refine zbf En.cls (z:=(0#256)) 5 L zj4 J J J J fun a s g23 hg_ L=>?_;have d24:Dis (some g23) og12:=Dis.newg hg_ lt_d24;refine zby (L':=[(3,(Pd.row (En.int .u8) s0.w.heap.size 5 og12 out11)),(9,(Pd.rep (En.slice En.cls) r5)),(10,(Pi (r5.length:Int))),(11,(Pi v13))]) 5 L J (O 14 J) zco J J J (.cons (t:=3) J (Dis.ow (Dis.symm d24)) (.k 9 (.k 10 (.k 11 .nil)))) fun s L=>?_;refine en' (H20 _ _ ?_);refine wp_seq_k fun K25 H25=>?_;obtain ⟨r26,h27,h⟩:=h;refine rg (sw 16 (zbr zco (O 5 J) J J) L fun a s L=>?_);refine sw 17 (zy ((zjt h27).tup) (xs:=[.tmp 16]) (.cons (O 16 J) .nil) J J) L fun a s L=>sw 15 (zd (O 17 J) J J) L fun a s L=>sw 18 (zj6 (O 15 J) J J) L fun a s L=>sw 19 (zie (O 15 J) J J) L fun a s L=>sw 6 (zb (O 18 J) J J) L fun a s L=>sw 7 (zb (O 19 J) J J) L fun a s L=>en' (H25 _ _ ?_);obtain ⟨h28,h⟩:=h;refine rg (sw 20 (zd (O 3 J) J J) L fun a s L=>?_);refine sw 21 (zd (O 6 J) J J) L fun a s L=>sw 22 (zec (xs:=[.tmp 21]) (.cons (O 21 J) .nil) U26 ty5 J J (by decide) J J) L fun a s L=>zev (L':=[(9,(Pd.rep (En.slice En.cls) r5)),(10,(Pi (r5.length:Int))),(11,(Pi v13))]) 23 L (O 20 J) (O 22 J) U26 ty5 h28 J J J J (.k 9 (.k 10 (.k 11 .nil))) fun a s og29 hg_ L=>?_;refine sw 3 (zb (O 23 J) J J) L fun a s L=>en' (H19 _ _ ?_)
  obtain ⟨h30,h⟩:=h;refine rg (sw 24 (zbk (O 11 J) oI h30 J J) L fun a s L=>?_);refine sw 11 (zd (O 24 J) J J) L fun a s L=>en' ?_;exact hKL16 k15 a s (Nat.lt_succ_self _) ⟨(out11++[r26.1]),(v13+1),og29,L.keep (.cons (t:=3) J (fun _ _ h_=>h_) (.k 9 (.k 10 (.k 11 .nil)))),h⟩
 ·replace h:=h.2 hb_;refine wp_exit ?_;exact J9 out11 og12 a s (L.keep (.cons (t:=3) J (fun _ _ h_=>h_) .nil)) h
theorem zg4 {a_:(List Int)} {b_:(List Int)} {r_:Bool} (h:zb7 a_ b_ r_):Fn Tryz.prog 23 [(Pd.rep (En.slice (En.int .u8)) a_),(Pd.rep (En.slice (En.int .u8)) b_)] (Rq (Pd.rep En.bool r_)):=by
 unfold zb7 at h;refine zbx Tryz.func23 J Tryz.ntmps23 (by rfl) (by simp) fun s0 a L=>?_;refine wp_seq_k fun K1 H1=>rg (sw 4 (zb o_b J J) L fun a s L=>?_);refine en' (H1 _ _ ?_);refine wp_seq_k fun K2 H2=>wp_seq_k fun K3 H3=>rg (sw 6 (zd (O 0 J) J J) L fun a s L=>?_);refine sw 7 (zc8 (O 6 J) U26 J J) L fun a s L=>sw 8 (zd (O 1 J) J J) L fun a s L=>sw 9 (zc8 (O 8 J) U26 J J) L fun a s L=>sw 10 (zl1 (O 7 J) (O 9 J) J J) L fun a s L=>en' (H3 _ _ ?_);refine cnd L J (fun hb_=>?_) (fun hb_=>?_)
 ·replace h:=h.1 hb_;refine wp_seq_k fun K4 H4=>rg (sw 4 (zb o_b J J) L fun a s L=>?_);refine en' (H4 _ _ ?_);subst h;exact wp_ret (zdu J L J)
 ·replace h:=h.2 hb_;refine wp_skip ?_;show K2 a s.w;refine H2 _ _ (wp_seq_k fun K5 H5=>?_);refine wp_seq_k fun K6 H6=>rg (sw 5 (zb oI J J) L fun a s L=>?_);refine en' (H6 _ _ ?_);refine wp_block ?_;have J7:∀(a:Act) (s:St),Has N0 26 s0 a s []→((zb7.j1 r_))→K5 a s.w:=by
   intro a s L h;unfold zb7.j1 at h;show K5 a s.w;refine H5 _ _ (wp_seq_k fun K8 H8=>?_);refine rg (sw 4 (zb o_b J J) L fun a s L=>?_);refine en' (H8 _ _ ?_);subst h;exact wp_ret (zdu J L J)
  obtain ⟨k10,h⟩:=h;refine lpg (fun k11 a s=>∃(i9:Int),Has N0 26 s0 a s [(0,(Pd.rep (En.slice (En.int .u8)) a_)),(1,(Pd.rep (En.slice (En.int .u8)) b_)),(5,(Pi i9))]∧zb7.l1 a_ b_ r_ (zb7.j1 r_) k11 i9) k10 ⟨0,L.keep (.k 0 (.k 1 (.k 5 .nil))),h⟩ ?_;rintro k11 a s ⟨i9,L,h⟩ KL12 hKL12;cases k11 with
  | zero=>exact h.elim
  | succ k11=>
  unfold zb7.l1 at h;refine wp_seq_k fun K13 H13=>wp_seq_k fun K14 H14=>rg (sw 11 (zd (O 5 J) J J) L fun a s L=>?_);refine sw 12 (zd (O 0 J) J J) L fun a s L=>sw 13 (zc8 (O 12 J) U26 J J) L fun a s L=>sw 14 (zbz (O 11 J) (O 13 J) J J) L fun a s L=>en' (H14 _ _ ?_);refine cnd L J (fun hb_=>?_) (fun hb_=>?_)
  ·replace h:=h.1 hb_;refine wp_skip ?_;show K13 a s.w;refine H13 _ _ (wp_seq_k fun K15 H15=>?_);refine wp_block (wp_seq_k fun K16 H16=>?_);obtain ⟨e17,h18,e19,h20,h⟩:=h;refine rda zcm 9 [(Pd.rep (En.slice (En.int .u8)) a_),(Pi i9),(Pd.ptr (En.int .u8) e17),(Pd.rep (En.int .u8) e17),(Pd.rep (En.slice (En.int .u8)) b_),(Pi i9),(Pd.ptr (En.int .u8) e19),(Pd.rep (En.int .u8) e19),(Pd.rep En.bool (e17 != e19))] L (by kernel_rfl) J J ?_ ?_
   ·refine z8.cons (zd (O 0 J) J J) ?_;refine z8.cons (zd (O 5 J) J J) (z8.cons (zde (O 17 J) (O 18 J) h18 U26 ty5 J J) ?_);refine z8.cons (zt ty5 (O 19 J) J J) (z8.cons (zd (O 1 J) J J) ?_);refine z8.cons (zd (O 5 J) J J) (z8.cons (zde (O 21 J) (O 22 J) h20 U26 ty5 J J) ?_);refine z8.cons (zt ty5 (O 23 J) J J) (z8.cons (zl1 (O 20 J) (O 24 J) J J) ?_);exact z8.nil
   intro a s _ L;refine en' (H16 _ _ ?_);refine cnd L J (fun hb_=>?_) (fun hb_=>?_)
   ·replace h:=h.1 hb_;refine wp_seq_k fun K21 H21=>rg (sw 4 (zb o_b J J) L fun a s L=>?_);refine en' (H21 _ _ ?_);subst h;exact wp_ret (zdu J L J)
   ·replace h:=h.2 hb_;refine wp_skip ?_;show K15 a s.w;refine H15 _ _ ?_;obtain ⟨h22,h⟩:=h;refine rg (sw 15 (zd (O 5 J) J J) L fun a s L=>?_);refine sw 16 (zbk (O 15 J) oI h22 J J) L fun a s L=>sw 5 (zb (O 16 J) J J) L fun a s L=>en' ?_;exact hKL12 k11 a s (Nat.lt_succ_self _) ⟨(i9+1),L.keep (.k 0 (.k 1 (.k 5 .nil))),h⟩
  ·replace h:=h.2 hb_;refine wp_exit ?_;exact J7 a s (L.keep .nil) h
def zfz (s_:Str) (i_:Int) (from_:Int) (to_:Int) (r_:Bool):Prop:=∃c3:Int,(((decide (i_<(s_.length:Int)))=true)→zen s_ i_=some c3)∧∃b5:Bool,b5=((decide (i_<(s_.length:Int)))&&(decide (from_≤c3)))∧∃c7:Int,(((b5)=true)→zen s_ i_=some c7)∧r_=(b5&&(decide (c7≤to_)))
def zbp.j1 (r_:Bool):Prop:=r_=true
def zbp.l1 (s_:Str) (r_:Bool) (X1:Prop):Nat→Int→Prop
 | 0,_=>False
 | k_0+1,i6=>((decide (i6<(s_.length:Int)))=true→∃c13:Int,zen s_ i6=some c13∧(InR .i64 (i6+1))∧∃r17:Bool,zfz s_ (i6+1) 128 191 r17∧(InR .i64 (i6+2))∧∃r21:Bool,zfz s_ (i6+2) 128 191 r21∧(InR .i64 (i6+3))∧∃r25:Bool,zfz s_ (i6+3) 128 191 r25∧((decide (c13<128))=true→(InR .i64 (i6+1))∧zbp.l1 s_ r_ X1 k_0 (i6+1))∧((decide (c13<128))=false→∃b30:Bool,b30=(((decide (194≤c13))&&(decide (c13≤223)))&&r17)∧((b30)=true→(InR .i64 (i6+2))∧zbp.l1 s_ r_ X1 k_0 (i6+2))∧((b30)=false→((((c13==224))=true)→InR .i64 (i6+1))∧∃r35:Bool,((((c13==224))=true)→zfz s_ (i6+1) 160 191 r35)∧(((((c13==224)&&r35)&&r21))=true→(InR .i64 (i6+3))∧zbp.l1 s_ r_ X1 k_0 (i6+3))∧(((((c13==224)&&r35)&&r21))=false→∃b39:Bool,b39=(((decide (225≤c13))&&(decide (c13≤236)))||(c13==238))∧(((((b39||(c13==239))&&r17)&&r21))=true→(InR .i64 (i6+3))∧zbp.l1 s_ r_ X1 k_0 (i6+3))∧(((((b39||(c13==239))&&r17)&&r21))=false→((((c13==237))=true)→InR .i64 (i6+1))∧∃r44:Bool,((((c13==237))=true)→zfz s_ (i6+1) 128 159 r44)∧(((((c13==237)&&r44)&&r21))=true→(InR .i64 (i6+3))∧zbp.l1 s_ r_ X1 k_0 (i6+3))∧(((((c13==237)&&r44)&&r21))=false→((((c13==240))=true)→InR .i64 (i6+1))∧∃r49:Bool,((((c13==240))=true)→zfz s_ (i6+1) 144 191 r49)∧((((((c13==240)&&r49)&&r21)&&r25))=true→(InR .i64 (i6+4))∧zbp.l1 s_ r_ X1 k_0 (i6+4))∧((((((c13==240)&&r49)&&r21)&&r25))=false→∃b53:Bool,b53=(((decide (241≤c13))&&(decide (c13≤243)))&&r17)∧((((b53&&r21)&&r25))=true→(InR .i64 (i6+4))∧zbp.l1 s_ r_ X1 k_0 (i6+4))∧((((b53&&r21)&&r25))=false→((((c13==244))=true)→InR .i64 (i6+1))∧∃r58:Bool,((((c13==244))=true)→zfz s_ (i6+1) 128 143 r58)∧((((((c13==244)&&r58)&&r21)&&r25))=true→(InR .i64 (i6+4))∧zbp.l1 s_ r_ X1 k_0 (i6+4))∧((((((c13==244)&&r58)&&r21)&&r25))=false→r_=false)))))))))∧((decide (i6<(s_.length:Int)))=false→X1)
def zbp (s_:Str) (r_:Bool):Prop:=∃k7,zbp.l1 s_ r_ (zbp.j1 r_) k7 0
set_option maxRecDepth 100000
theorem ze5 {s_:Str} {i_:Int} {from_:Int} {to_:Int} {r_:Bool} (h:zfz s_ i_ from_ to_ r_):Fn Tryz.prog 168 [(Pd.rep En.str s_),(Pi i_),(Pi from_),(Pi to_)] (Rq (Pd.rep En.bool r_)):=by
 unfold zfz at h;refine zbx Tryz.func168 J Tryz.ntmps168 (by rfl) (by simp) fun s0 a L=>?_;refine wp_seq_k fun K1 H1=>rg (sw 8 (zb o_b J J) L fun a s L=>?_);refine en' (H1 _ _ ?_);refine wp_seq_k fun K2 H2=>?_;obtain ⟨c3,h4,b5,h6,c7,h8,h⟩:=h;refine rg (sw 9 (zd (O 1 J) J J) L fun a s L=>?_);refine sw 10 (zd (O 0 J) J J) L fun a s L=>sw 11 (zlm (O 10 J) U9 J J) L fun a s L=>sw 12 (zbz (O 9 J) (O 11 J) J J) L fun a s L=>sw 13 (zd (O 12 J) J J) L fun a s L=>sw 14 (zbg J J J (fun hc_=>zd (O 0 J) J J)) L fun a s L=>sw 15 (zbg J J J (fun hc_=>zd (O 1 J) J J)) L fun a s L=>sw 16 (zbg J J J (fun hc_=>zln (o_w hc_ 14 J) (o_w hc_ 15 J) (h4 hc_) U9 J J)) L fun a s L=>sw 17 (zbg J J J (fun hc_=>t_up (o_w hc_ 16 J) (by decide) U5 U3 J J)) L fun a s L=>sw 18 (zbg J J J (fun hc_=>zd (O 2 J) J J)) L fun a s L=>?_;refine sw 19 (zbg J J J (fun hc_=>zj5 (o_w hc_ 17 J) (o_w hc_ 18 J) J J)) L fun a s L=>sw 20 (h6 ▸ (zc1 (O 13 J) (fun hc2_=>(o_w hc2_ 19 J)) J J)) L fun a s L=>sw 21 (zd (O 20 J) J J) L fun a s L=>sw 22 (zbg J J J (fun hc_=>zd (O 0 J) J J)) L fun a s L=>sw 23 (zbg J J J (fun hc_=>zd (O 1 J) J J)) L fun a s L=>sw 24 (zbg J J J (fun hc_=>zln (o_w hc_ 22 J) (o_w hc_ 23 J) (h8 hc_) U9 J J)) L fun a s L=>sw 25 (zbg J J J (fun hc_=>t_up (o_w hc_ 24 J) (by decide) U5 U3 J J)) L fun a s L=>sw 26 (zbg J J J (fun hc_=>zd (O 3 J) J J)) L fun a s L=>sw 27 (zbg J J J (fun hc_=>zji (o_w hc_ 25 J) (o_w hc_ 26 J) J J)) L fun a s L=>?_;refine sw 28 (zc1 (O 21 J) (fun hc2_=>(o_w hc2_ 27 J)) J J) L fun a s L=>sw 8 (zb (O 28 J) J J) L fun a s L=>en' (H2 _ _ ?_)
 subst h;exact wp_ret (zdu J L J)
theorem zp7 {s_:Str} {r_:Bool} (h:zbp s_ r_):Fn Tryz.prog 141 [(Pd.rep En.str s_)] (Rq (Pd.rep En.bool r_)):=by
 unfold zbp at h;refine zbx Tryz.func141 J Tryz.ntmps141 (by rfl) (by simp) fun s0 a L=>?_;refine wp_seq_k fun K1 H1=>rg (sw 2 (zb o_b J J) L fun a s L=>?_);refine en' (H1 _ _ ?_);refine wp_seq_k fun K2 H2=>rg (sw 3 (zb oI J J) L fun a s L=>?_);refine en' (H2 _ _ ?_);refine wp_seq_k fun K3 H3=>wp_block ?_;have J4:∀(a:Act) (s:St),Has N0 148 s0 a s []→((zbp.j1 r_))→K3 a s.w:=by
  intro a s L h;unfold zbp.j1 at h;show K3 a s.w;refine H3 _ _ (wp_seq_k fun K5 H5=>?_);refine rg (sw 2 (zb o_b J J) L fun a s L=>?_);refine en' (H5 _ _ ?_);subst h;exact wp_ret (zdu J L J)
 obtain ⟨k7,h⟩:=h;refine lpg (fun k8 a s=>∃(i6:Int),Has N0 148 s0 a s [(0,(Pd.rep En.str s_)),(3,(Pi i6))]∧zbp.l1 s_ r_ (zbp.j1 r_) k8 i6) k7 ⟨0,L.keep (.k 0 (.k 3 .nil)),h⟩ ?_;rintro k8 a s ⟨i6,L,h⟩ KL9 hKL9;cases k8 with
 | zero=>exact h.elim
 | succ k8=>
 unfold zbp.l1 at h;refine wp_seq_k fun K10 H10=>wp_seq_k fun K11 H11=>rg (sw 8 (zd (O 3 J) J J) L fun a s L=>?_);refine sw 9 (zd (O 0 J) J J) L fun a s L=>sw 10 (zlm (O 9 J) U9 J J) L fun a s L=>sw 11 (zbz (O 8 J) (O 10 J) J J) L fun a s L=>en' (H11 _ _ ?_);refine cnd L J (fun hb_=>?_) (fun hb_=>?_)
 ·replace h:=h.1 hb_;refine wp_skip ?_;show K10 a s.w;refine H10 _ _ (wp_block ?_);refine wp_seq_k fun K12 H12=>?_;obtain ⟨c13,h14,h⟩:=h;refine rg (sw 12 (zd (O 0 J) J J) L fun a s L=>?_);refine sw 13 (zd (O 3 J) J J) L fun a s L=>sw 14 (zln (O 12 J) (O 13 J) h14 U9 J J) L fun a s L=>sw 15 (t_up (O 14 J) (by decide) U5 U3 J J) L fun a s L=>sw 4 (zb (O 15 J) J J) L fun a s L=>en' (H12 _ _ ?_);refine wp_seq_k fun K15 H15=>?_;obtain ⟨h16,r17,h18,h⟩:=h;refine rg (sw 16 (zd (O 0 J) J J) L fun a s L=>?_);refine sw 17 (zd (O 3 J) J J) L fun a s L=>sw 18 (zbk (O 17 J) oI h16 J J) L fun a s L=>sw 19 (zy (ze5 h18) (xs:=[.tmp 16,.tmp 18,.const (.int .i64 128),.const (.int .i64 191)]) (.cons (O 16 J) (.cons (O 18 J) (.cons oI (.cons oI .nil)))) J J) L fun a s L=>sw 5 (zb (O 19 J) J J) L fun a s L=>en' (H15 _ _ ?_);refine wp_seq_k fun K19 H19=>?_;obtain ⟨h20,r21,h22,h⟩:=h;refine rg (sw 20 (zd (O 0 J) J J) L fun a s L=>?_);refine sw 21 (zd (O 3 J) J J) L fun a s L=>sw 22 (zbk (O 21 J) oI h20 J J) L fun a s L=>sw 23 (zy (ze5 h22) (xs:=[.tmp 20,.tmp 22,.const (.int .i64 128),.const (.int .i64 191)]) (.cons (O 20 J) (.cons (O 22 J) (.cons oI (.cons oI .nil)))) J J) L fun a s L=>sw 6 (zb (O 23 J) J J) L fun a s L=>en' (H19 _ _ ?_);refine wp_seq_k fun K23 H23=>?_;obtain ⟨h24,r25,h26,h⟩:=h;refine rg (sw 24 (zd (O 0 J) J J) L fun a s L=>?_);refine sw 25 (zd (O 3 J) J J) L fun a s L=>sw 26 (zbk (O 25 J) oI h24 J J) L fun a s L=>sw 27 (zy (ze5 h26) (xs:=[.tmp 24,.tmp 26,.const (.int .i64 128),.const (.int .i64 191)]) (.cons (O 24 J) (.cons (O 26 J) (.cons oI (.cons oI .nil)))) J J) L fun a s L=>sw 7 (zb (O 27 J) J J) L fun a s L=>en' (H23 _ _ ?_)
  refine wp_block (wp_seq_k fun K27 H27=>?_);refine rg (sw 29 (zd (O 4 J) J J) L fun a s L=>?_);refine sw 30 (zbz (O 29 J) oI J J) L fun a s L=>sw 28 (zb (O 30 J) J J) L fun a s L=>en' (H27 _ _ ?_);refine cnd L J (fun hb_=>?_) (fun hb_=>?_)
  ·obtain ⟨h28,h⟩:=h.1 hb_;refine rg (sw 31 (zd (O 3 J) J J) L fun a s L=>?_);refine sw 32 (zbk (O 31 J) oI h28 J J) L fun a s L=>sw 3 (zb (O 32 J) J J) L fun a s L=>en' ?_;exact hKL9 k8 a s (Nat.lt_succ_self _) ⟨(i6+1),L.keep (.k 0 (.k 3 .nil)),h⟩
  ·replace h:=h.2 hb_;refine wp_seq_k fun K29 H29=>?_;obtain ⟨b30,h31,h⟩:=h;refine rg (sw 34 (zd (O 4 J) J J) L fun a s L=>?_);refine sw 35 (zj5 (O 34 J) oI J J) L fun a s L=>sw 36 (zd (O 35 J) J J) L fun a s L=>sw 37 (zbg J J J (fun hc_=>zd (O 4 J) J J)) L fun a s L=>sw 38 (zbg J J J (fun hc_=>zji (o_w hc_ 37 J) oI J J)) L fun a s L=>sw 39 (zc1 (O 36 J) (fun hc2_=>(o_w hc2_ 38 J)) J J) L fun a s L=>sw 40 (zd (O 39 J) J J) L fun a s L=>sw 41 (zbg J J J (fun hc_=>zd (O 5 J) J J)) L fun a s L=>sw 42 (h31 ▸ (zc1 (O 40 J) (fun hc2_=>(o_w hc2_ 41 J)) J J)) L fun a s L=>sw 33 (zb (O 42 J) J J) L fun a s L=>?_;refine en' (H29 _ _ ?_);refine cnd L J (fun hb_=>?_) (fun hb_=>?_)
   ·obtain ⟨h32,h⟩:=h.1 hb_;refine rg (sw 43 (zd (O 3 J) J J) L fun a s L=>?_);refine sw 44 (zbk (O 43 J) oI h32 J J) L fun a s L=>sw 3 (zb (O 44 J) J J) L fun a s L=>en' ?_;exact hKL9 k8 a s (Nat.lt_succ_self _) ⟨(i6+2),L.keep (.k 0 (.k 3 .nil)),h⟩
   ·replace h:=h.2 hb_;refine wp_seq_k fun K33 H33=>?_;obtain ⟨h34,r35,h36,h⟩:=h;refine rg (sw 46 (zd (O 4 J) J J) L fun a s L=>?_);refine sw 47 (zbt (O 46 J) oI J J) L fun a s L=>sw 48 (zd (O 47 J) J J) L fun a s L=>sw 49 (zbg J J J (fun hc_=>zd (O 0 J) J J)) L fun a s L=>sw 50 (zbg J J J (fun hc_=>zd (O 3 J) J J)) L fun a s L=>sw 51 (zbg J J J (fun hc_=>zbk (o_w hc_ 50 J) oI (h34 hc_) J J)) L fun a s L=>sw 52 (zbg J J J (fun hc_=>zy (ze5 (h36 hc_)) (xs:=[.tmp 49,.tmp 51,.const (.int .i64 160),.const (.int .i64 191)]) (.cons (o_w hc_ 49 J) (.cons (o_w hc_ 51 J) (.cons oI (.cons oI .nil)))) J J)) L fun a s L=>sw 53 (zc1 (O 48 J) (fun hc2_=>(o_w hc2_ 52 J)) J J) L fun a s L=>sw 54 (zd (O 53 J) J J) L fun a s L=>sw 55 (zbg J J J (fun hc_=>zd (O 6 J) J J)) L fun a s L=>?_;refine sw 56 (zc1 (O 54 J) (fun hc2_=>(o_w hc2_ 55 J)) J J) L fun a s L=>sw 45 (zb (O 56 J) J J) L fun a s L=>en' (H33 _ _ ?_);refine cnd L J (fun hb_=>?_) (fun hb_=>?_)
    ·obtain ⟨h37,h⟩:=h.1 hb_;refine rg (sw 57 (zd (O 3 J) J J) L fun a s L=>?_);refine sw 58 (zbk (O 57 J) oI h37 J J) L fun a s L=>sw 3 (zb (O 58 J) J J) L fun a s L=>en' ?_;exact hKL9 k8 a s (Nat.lt_succ_self _) ⟨(i6+3),L.keep (.k 0 (.k 3 .nil)),h⟩
    ·replace h:=h.2 hb_;refine wp_seq_k fun K38 H38=>?_;obtain ⟨b39,h40,h⟩:=h;refine rg (sw 60 (zd (O 4 J) J J) L fun a s L=>?_);refine sw 61 (zj5 (O 60 J) oI J J) L fun a s L=>sw 62 (zd (O 61 J) J J) L fun a s L=>sw 63 (zbg J J J (fun hc_=>zd (O 4 J) J J)) L fun a s L=>sw 64 (zbg J J J (fun hc_=>zji (o_w hc_ 63 J) oI J J)) L fun a s L=>sw 65 (zc1 (O 62 J) (fun hc2_=>(o_w hc2_ 64 J)) J J) L fun a s L=>sw 66 (zd (O 65 J) J J) L fun a s L=>sw 67 (zbg J J J (fun hc_=>zd (O 4 J) J J)) L fun a s L=>sw 68 (zbg J J J (fun hc_=>zbt (o_w hc_ 67 J) oI J J)) L fun a s L=>sw 69 (h40 ▸ (zox (O 66 J) (fun hc2_=>(o_w hc2_ 68 J)) J J)) L fun a s L=>?_;refine sw 70 (zd (O 69 J) J J) L fun a s L=>sw 71 (zbg J J J (fun hc_=>zd (O 4 J) J J)) L fun a s L=>sw 72 (zbg J J J (fun hc_=>zbt (o_w hc_ 71 J) oI J J)) L fun a s L=>sw 73 (zox (O 70 J) (fun hc2_=>(o_w hc2_ 72 J)) J J) L fun a s L=>sw 74 (zd (O 73 J) J J) L fun a s L=>sw 75 (zbg J J J (fun hc_=>zd (O 5 J) J J)) L fun a s L=>sw 76 (zc1 (O 74 J) (fun hc2_=>(o_w hc2_ 75 J)) J J) L fun a s L=>sw 77 (zd (O 76 J) J J) L fun a s L=>sw 78 (zbg J J J (fun hc_=>zd (O 6 J) J J)) L fun a s L=>?_;refine sw 79 (zc1 (O 77 J) (fun hc2_=>(o_w hc2_ 78 J)) J J) L fun a s L=>sw 59 (zb (O 79 J) J J) L fun a s L=>en' (H38 _ _ ?_);refine cnd L J (fun hb_=>?_) (fun hb_=>?_)
     ·obtain ⟨h41,h⟩:=h.1 hb_;refine rg (sw 80 (zd (O 3 J) J J) L fun a s L=>?_);refine sw 81 (zbk (O 80 J) oI h41 J J) L fun a s L=>sw 3 (zb (O 81 J) J J) L fun a s L=>en' ?_;exact hKL9 k8 a s (Nat.lt_succ_self _) ⟨(i6+3),L.keep (.k 0 (.k 3 .nil)),h⟩
     ·replace h:=h.2 hb_;refine wp_seq_k fun K42 H42=>?_;obtain ⟨h43,r44,h45,h⟩:=h;refine rg (sw 83 (zd (O 4 J) J J) L fun a s L=>?_);refine sw 84 (zbt (O 83 J) oI J J) L fun a s L=>sw 85 (zd (O 84 J) J J) L fun a s L=>sw 86 (zbg J J J (fun hc_=>zd (O 0 J) J J)) L fun a s L=>sw 87 (zbg J J J (fun hc_=>zd (O 3 J) J J)) L fun a s L=>sw 88 (zbg J J J (fun hc_=>zbk (o_w hc_ 87 J) oI (h43 hc_) J J)) L fun a s L=>sw 89 (zbg J J J (fun hc_=>zy (ze5 (h45 hc_)) (xs:=[.tmp 86,.tmp 88,.const (.int .i64 128),.const (.int .i64 159)]) (.cons (o_w hc_ 86 J) (.cons (o_w hc_ 88 J) (.cons oI (.cons oI .nil)))) J J)) L fun a s L=>sw 90 (zc1 (O 85 J) (fun hc2_=>(o_w hc2_ 89 J)) J J) L fun a s L=>sw 91 (zd (O 90 J) J J) L fun a s L=>sw 92 (zbg J J J (fun hc_=>zd (O 6 J) J J)) L fun a s L=>?_;refine sw 93 (zc1 (O 91 J) (fun hc2_=>(o_w hc2_ 92 J)) J J) L fun a s L=>sw 82 (zb (O 93 J) J J) L fun a s L=>en' (H42 _ _ ?_);refine cnd L J (fun hb_=>?_) (fun hb_=>?_)
      ·obtain ⟨h46,h⟩:=h.1 hb_;refine rg (sw 94 (zd (O 3 J) J J) L fun a s L=>?_);refine sw 95 (zbk (O 94 J) oI h46 J J) L fun a s L=>sw 3 (zb (O 95 J) J J) L fun a s L=>en' ?_;exact hKL9 k8 a s (Nat.lt_succ_self _) ⟨(i6+3),L.keep (.k 0 (.k 3 .nil)),h⟩
      ·replace h:=h.2 hb_;refine wp_seq_k fun K47 H47=>?_;obtain ⟨h48,r49,h50,h⟩:=h;refine rg (sw 97 (zd (O 4 J) J J) L fun a s L=>?_);refine sw 98 (zbt (O 97 J) oI J J) L fun a s L=>sw 99 (zd (O 98 J) J J) L fun a s L=>sw 100 (zbg J J J (fun hc_=>zd (O 0 J) J J)) L fun a s L=>sw 101 (zbg J J J (fun hc_=>zd (O 3 J) J J)) L fun a s L=>sw 102 (zbg J J J (fun hc_=>zbk (o_w hc_ 101 J) oI (h48 hc_) J J)) L fun a s L=>sw 103 (zbg J J J (fun hc_=>zy (ze5 (h50 hc_)) (xs:=[.tmp 100,.tmp 102,.const (.int .i64 144),.const (.int .i64 191)]) (.cons (o_w hc_ 100 J) (.cons (o_w hc_ 102 J) (.cons oI (.cons oI .nil)))) J J)) L fun a s L=>sw 104 (zc1 (O 99 J) (fun hc2_=>(o_w hc2_ 103 J)) J J) L fun a s L=>sw 105 (zd (O 104 J) J J) L fun a s L=>sw 106 (zbg J J J (fun hc_=>zd (O 6 J) J J)) L fun a s L=>?_;refine sw 107 (zc1 (O 105 J) (fun hc2_=>(o_w hc2_ 106 J)) J J) L fun a s L=>sw 108 (zd (O 107 J) J J) L fun a s L=>sw 109 (zbg J J J (fun hc_=>zd (O 7 J) J J)) L fun a s L=>sw 110 (zc1 (O 108 J) (fun hc2_=>(o_w hc2_ 109 J)) J J) L fun a s L=>sw 96 (zb (O 110 J) J J) L fun a s L=>en' (H47 _ _ ?_);refine cnd L J (fun hb_=>?_) (fun hb_=>?_)
       ·obtain ⟨h51,h⟩:=h.1 hb_;refine rg (sw 111 (zd (O 3 J) J J) L fun a s L=>?_);refine sw 112 (zbk (O 111 J) oI h51 J J) L fun a s L=>sw 3 (zb (O 112 J) J J) L fun a s L=>en' ?_;exact hKL9 k8 a s (Nat.lt_succ_self _) ⟨(i6+4),L.keep (.k 0 (.k 3 .nil)),h⟩
       ·replace h:=h.2 hb_;refine wp_seq_k fun K52 H52=>?_;obtain ⟨b53,h54,h⟩:=h;refine rg (sw 114 (zd (O 4 J) J J) L fun a s L=>?_);refine sw 115 (zj5 (O 114 J) oI J J) L fun a s L=>sw 116 (zd (O 115 J) J J) L fun a s L=>sw 117 (zbg J J J (fun hc_=>zd (O 4 J) J J)) L fun a s L=>sw 118 (zbg J J J (fun hc_=>zji (o_w hc_ 117 J) oI J J)) L fun a s L=>sw 119 (zc1 (O 116 J) (fun hc2_=>(o_w hc2_ 118 J)) J J) L fun a s L=>sw 120 (zd (O 119 J) J J) L fun a s L=>sw 121 (zbg J J J (fun hc_=>zd (O 5 J) J J)) L fun a s L=>sw 122 (h54 ▸ (zc1 (O 120 J) (fun hc2_=>(o_w hc2_ 121 J)) J J)) L fun a s L=>sw 123 (zd (O 122 J) J J) L fun a s L=>?_;refine sw 124 (zbg J J J (fun hc_=>zd (O 6 J) J J)) L fun a s L=>sw 125 (zc1 (O 123 J) (fun hc2_=>(o_w hc2_ 124 J)) J J) L fun a s L=>sw 126 (zd (O 125 J) J J) L fun a s L=>sw 127 (zbg J J J (fun hc_=>zd (O 7 J) J J)) L fun a s L=>sw 128 (zc1 (O 126 J) (fun hc2_=>(o_w hc2_ 127 J)) J J) L fun a s L=>sw 113 (zb (O 128 J) J J) L fun a s L=>en' (H52 _ _ ?_);refine cnd L J (fun hb_=>?_) (fun hb_=>?_)
        ·obtain ⟨h55,h⟩:=h.1 hb_;refine rg (sw 129 (zd (O 3 J) J J) L fun a s L=>?_);refine sw 130 (zbk (O 129 J) oI h55 J J) L fun a s L=>sw 3 (zb (O 130 J) J J) L fun a s L=>en' ?_;exact hKL9 k8 a s (Nat.lt_succ_self _) ⟨(i6+4),L.keep (.k 0 (.k 3 .nil)),h⟩
        ·replace h:=h.2 hb_;refine wp_seq_k fun K56 H56=>?_;obtain ⟨h57,r58,h59,h⟩:=h;refine rg (sw 132 (zd (O 4 J) J J) L fun a s L=>?_);refine sw 133 (zbt (O 132 J) oI J J) L fun a s L=>sw 134 (zd (O 133 J) J J) L fun a s L=>sw 135 (zbg J J J (fun hc_=>zd (O 0 J) J J)) L fun a s L=>sw 136 (zbg J J J (fun hc_=>zd (O 3 J) J J)) L fun a s L=>sw 137 (zbg J J J (fun hc_=>zbk (o_w hc_ 136 J) oI (h57 hc_) J J)) L fun a s L=>sw 138 (zbg J J J (fun hc_=>zy (ze5 (h59 hc_)) (xs:=[.tmp 135,.tmp 137,.const (.int .i64 128),.const (.int .i64 143)]) (.cons (o_w hc_ 135 J) (.cons (o_w hc_ 137 J) (.cons oI (.cons oI .nil)))) J J)) L fun a s L=>sw 139 (zc1 (O 134 J) (fun hc2_=>(o_w hc2_ 138 J)) J J) L fun a s L=>sw 140 (zd (O 139 J) J J) L fun a s L=>sw 141 (zbg J J J (fun hc_=>zd (O 6 J) J J)) L fun a s L=>?_;refine sw 142 (zc1 (O 140 J) (fun hc2_=>(o_w hc2_ 141 J)) J J) L fun a s L=>sw 143 (zd (O 142 J) J J) L fun a s L=>sw 144 (zbg J J J (fun hc_=>zd (O 7 J) J J)) L fun a s L=>sw 145 (zc1 (O 143 J) (fun hc2_=>(o_w hc2_ 144 J)) J J) L fun a s L=>sw 131 (zb (O 145 J) J J) L fun a s L=>en' (H56 _ _ ?_);refine cnd L J (fun hb_=>?_) (fun hb_=>?_)
         ·obtain ⟨h60,h⟩:=h.1 hb_;refine rg (sw 146 (zd (O 3 J) J J) L fun a s L=>?_);refine sw 147 (zbk (O 146 J) oI h60 J J) L fun a s L=>sw 3 (zb (O 147 J) J J) L fun a s L=>en' ?_;exact hKL9 k8 a s (Nat.lt_succ_self _) ⟨(i6+4),L.keep (.k 0 (.k 3 .nil)),h⟩
         ·replace h:=h.2 hb_;refine wp_seq_k fun K61 H61=>rg (sw 2 (zb o_b J J) L fun a s L=>?_);refine en' (H61 _ _ ?_);subst h;exact wp_ret (zdu J L J)
 ·replace h:=h.2 hb_;refine wp_exit ?_;exact J4 a s (L.keep .nil) h
def zbe.j1 (r_:(List SNode)) (out5:(List SNode)):Prop:=r_=out5
def zbe.j2 (L1_:(List SNode)→Int→Prop) (out9:(List SNode)) (i11:Int) (n30:SNode):Prop:=(out9.length+[n30].length≤2147483648)∧(InR .i64 (i11+1))∧L1_ (out9++[n30]) (i11+1)
def zbe.j3 (L1_:(List SNode)→Int→Prop) (by_:Int) (out9:(List SNode)) (i11:Int) (n25:SNode):Prop:=((((n25.1==4)||(n25.1==5)))=true→(InR .i64 (n25.2.2.1+by_))∧(zbe.j2 (L1_) out9 i11) (n25.1,n25.2.1,n25.2.2.1+by_,n25.2.2.2.1,n25.2.2.2.2.1,n25.2.2.2.2.2.1,n25.2.2.2.2.2.2))∧((((n25.1==4)||(n25.1==5)))=false→(zbe.j2 (L1_) out9 i11) n25)
def zbe.l1 (l_:(List SNode)) (by_:Int) (X1:(List SNode)→Prop):Nat→(List SNode)→Int→Prop
 | 0,_,_=>False
 | k_0+1,out9,i11=>((decide (i11<(l_.length:Int)))=true→∃e19:SNode,at? l_ i11=some e19∧((decide (4≤e19.1))=true→(InR .i64 (e19.2.1+by_))∧(zbe.j3 (zbe.l1 l_ by_ X1 k_0) by_ out9 i11) (e19.1,e19.2.1+by_,e19.2.2.1,e19.2.2.2.1,e19.2.2.2.2.1,e19.2.2.2.2.2.1,e19.2.2.2.2.2.2))∧((decide (4≤e19.1))=false→(zbe.j3 (zbe.l1 l_ by_ X1 k_0) by_ out9 i11) e19))∧((decide (i11<(l_.length:Int)))=false→X1 out9)
def zbe (l_:(List SNode)) (by_:Int) (r_:(List SNode)):Prop:=∃k12,zbe.l1 l_ by_ (zbe.j1 r_) k12 ([]:(List SNode)) 0
def zdm.j1 (d_:SDesc) (r_:Bool) (n5:Int):Prop:=∃b8:Bool,b8=((decide ((d_.length:Int)≤100))&&(decide (n5≤2000)))∧r_=b8
def zdm.l1 (d_:SDesc) (X1:Int→Prop):Nat→Int→Int→Prop
 | 0,_,_=>False
 | k_0+1,n10,i11=>∃b17:Bool,b17=((decide (i11<(d_.length:Int)))&&(decide (i11<200)))∧((b17)=true→∃e20:SNode,at? d_ i11=some e20∧(InR .i64 (n10+(e20.2.2.2.2.2.2.length:Int)))∧(InR .i64 (i11+1))∧zdm.l1 d_ X1 k_0 (n10+(e20.2.2.2.2.2.2.length:Int)) (i11+1))∧((b17)=false→X1 n10)
def zdm (d_:SDesc) (r_:Bool):Prop:=∃k12,zdm.l1 d_ (zdm.j1 d_ r_) k12 0 0
def zcq.j1 (s_:Str) (r_:Bool):Prop:=∃r6:Bool,(((decide (0<(s_.length:Int)))=true)→zbp s_ r6)∧r_=((decide (0<(s_.length:Int)))&&r6)
def zcq.l1 (s_:Str) (r_:Bool) (X1:Prop):Nat→Int→Prop
 | 0,_=>False
 | k_0+1,i8=>((decide (i8<(s_.length:Int)))=true→∃c16:Int,zen s_ i8=some c16∧(((c16==34))=true→r_=false)∧(((c16==34))=false→(InR .i64 (i8+1))∧zcq.l1 s_ r_ X1 k_0 (i8+1)))∧((decide (i8<(s_.length:Int)))=false→X1)
def zcq (s_:Str) (r_:Bool):Prop:=∃k9,zcq.l1 s_ r_ (zcq.j1 s_ r_) k9 0
def zba.j1 (n_:(List SNode)→Int→Int→Prop) (l_:(List SNode)) (i_:Int) (r_:Int) (e6:SNode) (want48:SNode):Prop:=(InR .i64 (i_-1))∧∃r52:Int,n_ l_ (i_-1) r52∧(((e6 != want48))=true→r_=(-1))∧(((e6 != want48))=false→r_=r52)
def zba.j2 (n_:(List SNode)→Int→Int→Prop) (l_:(List SNode)) (i_:Int) (r_:Int) (e6:SNode) (v66:Bool):Prop:=((v66)=true→(InR .i64 (i_-1))∧(InR .i64 (i_-1))∧∃r73:Int,n_ l_ (i_-1) r73∧((decide (r73<0))=true→r_=(-1))∧((decide (r73<0))=false→(InR .i64 (r73-1))∧(InR .i64 (r73-1))∧∃r81:Int,n_ l_ (r73-1) r81∧∃b85:Bool,b85=(e6 != (e6.1,r73-1,i_-1,0,0,(0#256),([]:Str)))∧((b85)=true→r_=(-1))∧((b85)=false→r_=r81)))∧((v66)=false→r_=(-1))
def zba.j3 (n_:(List SNode)→Int→Int→Prop) (l_:(List SNode)) (i_:Int) (r_:Int) (e6:SNode) (v41:Bool):Prop:=((v41)=true→(InR .i64 (i_-1))∧(((e6.1==7))=true→∃b61:Bool,b61=((decide (e6.2.2.2.1<0))||(decide (e6.2.2.2.2.1<e6.2.2.2.1)))∧(((b61||(decide (255<e6.2.2.2.2.1))))=true→r_=(-1))∧(((b61||(decide (255<e6.2.2.2.2.1))))=false→(zba.j1 (n_) l_ i_ r_ e6) (e6.1,i_-1,0,e6.2.2.2.1,e6.2.2.2.2.1,(0#256),([]:Str))))∧(((e6.1==7))=false→(zba.j1 (n_) l_ i_ r_ e6) (e6.1,i_-1,0,0,0,(0#256),([]:Str))))∧((v41)=false→(((e6.1==4))=true→(zba.j2 (n_) l_ i_ r_ e6) (e6.1==4))∧(((e6.1==4))=false→(zba.j2 (n_) l_ i_ r_ e6) (e6.1==5)))
def zba.n:Nat→(List SNode)→Int→Int→Prop
 | 0,_,_,_=>False
 | k_+1,l_,i_,r_=>((decide (i_<0))=true→r_=(-1))∧((decide (i_<0))=false→∃e6:SNode,at? l_ i_=some e6∧(((e6.1==1))=true→(((e6 != (e6.1,0,0,0,0,(0#256),([]:Str))))=true→r_=(-1))∧(((e6 != (e6.1,0,0,0,0,(0#256),([]:Str))))=false→r_=i_))∧(((e6.1==1))=false→(((e6.1==2))=true→∃b23:Bool,b23=(e6 != (e6.1,0,0,0,0,e6.2.2.2.2.2.1,([]:Str)))∧((b23)=true→r_=(-1))∧((b23)=false→r_=i_))∧(((e6.1==2))=false→(((e6.1==3))=true→∃r30:Bool,zcq e6.2.2.2.2.2.2 r30∧(((!r30))=true→r_=(-1))∧(((!r30))=false→∃b35:Bool,b35=(e6 != (e6.1,0,0,0,0,(0#256),e6.2.2.2.2.2.2))∧((b35)=true→r_=(-1))∧((b35)=false→r_=i_)))∧(((e6.1==3))=false→(((e6.1==6))=true→(zba.j3 (zba.n k_) l_ i_ r_ e6) (e6.1==6))∧(((e6.1==6))=false→(((e6.1==7))=true→(zba.j3 (zba.n k_) l_ i_ r_ e6) (e6.1==7))∧(((e6.1==7))=false→(((e6.1==8))=true→(zba.j3 (zba.n k_) l_ i_ r_ e6) (e6.1==8))∧(((e6.1==8))=false→(zba.j3 (zba.n k_) l_ i_ r_ e6) (e6.1==9))))))))
def zba (l_:(List SNode)) (i_:Int) (r_:Int):Prop:=∃k_,zba.n k_ l_ i_ r_
def zi7 (d_:SDesc) (r_:Bool):Prop:=(((decide (0<(d_.length:Int)))=true)→InR .i64 ((d_.length:Int)-1))∧∃r4:Int,(((decide (0<(d_.length:Int)))=true)→zba d_ ((d_.length:Int)-1) r4)∧r_=((decide (0<(d_.length:Int)))&&(r4==0))
def zi6 (kind_:Int) (a_:SDesc) (b_:SDesc) (r_:SDesc):Prop:=∃r6:(List SNode),zbe a_ 0 r6∧∃r8:(List SNode),zbe b_ (a_.length:Int) r8∧(r6.length+r8.length≤2147483648)∧(InR .i64 ((a_.length:Int)-1))∧(InR .i64 ((a_.length:Int)+(b_.length:Int)))∧(InR .i64 (((a_.length:Int)+(b_.length:Int))-1))∧((r6++r8).length+[(kind_,(a_.length:Int)-1,((a_.length:Int)+(b_.length:Int))-1,0,0,(0#256),([]:Str))].length≤2147483648)∧r_=(r6++r8)++[(kind_,(a_.length:Int)-1,((a_.length:Int)+(b_.length:Int))-1,0,0,(0#256),([]:Str))]
def zo.j1 (r_:Int) (l5:(List Int)):Prop:=((((l5.length:Int)==0))=true→r_=0)∧((((l5.length:Int)==0))=false→(InR .i64 ((l5.length:Int)-1))∧∃e13:Int,at? l5 ((l5.length:Int)-1)=some e13∧r_=e13)
def zo.j2 (L1_:(List Int)→Int→Prop) (l15:(List Int)) (i17:Int) (w65:Int):Prop:=(l15.length+[(min w65 1000)].length≤2147483648)∧(InR .i64 (i17+1))∧L1_ (l15++[(min w65 1000)]) (i17+1)
def zo.j3 (L1_:(List Int)→Int→Prop) (l15:(List Int)) (i17:Int) (e27:SNode) (a37:Int) (w60:Int):Prop:=(((e27.1==7))=true→(InR .i64 (1+(max 0 (min e27.2.2.2.2.1 1000))))∧(InR .i64 ((1+(max 0 (min e27.2.2.2.2.1 1000)))*a37))∧(zo.j2 (L1_) l15 i17) ((1+(max 0 (min e27.2.2.2.2.1 1000)))*a37))∧(((e27.1==7))=false→(zo.j2 (L1_) l15 i17) w60)
def zo.j4 (L1_:(List Int)→Int→Prop) (l15:(List Int)) (i17:Int) (e27:SNode) (a37:Int) (w55:Int):Prop:=(((((e27.1==6)||(e27.1==8))||(e27.1==9)))=true→(InR .i64 (a37+1))∧(zo.j3 (L1_) l15 i17 e27 a37) (a37+1))∧(((((e27.1==6)||(e27.1==8))||(e27.1==9)))=false→(zo.j3 (L1_) l15 i17 e27 a37) w55)
def zo.j5 (L1_:(List Int)→Int→Prop) (l15:(List Int)) (i17:Int) (e27:SNode) (a37:Int) (b44:Int) (w50:Int):Prop:=((((e27.1==4)||(e27.1==5)))=true→(InR .i64 (a37+b44))∧(zo.j4 (L1_) l15 i17 e27 a37) (a37+b44))∧((((e27.1==4)||(e27.1==5)))=false→(zo.j4 (L1_) l15 i17 e27 a37) w50)
def zo.j6 (L1_:(List Int)→Int→Prop) (l15:(List Int)) (i17:Int) (e27:SNode) (a37:Int) (b44:Int):Prop:=(((e27.1==3))=true→(InR .i64 (1+(min (e27.2.2.2.2.2.2.length:Int) 1000)))∧(zo.j5 (L1_) l15 i17 e27 a37 b44) (1+(min (e27.2.2.2.2.2.2.length:Int) 1000)))∧(((e27.1==3))=false→(zo.j5 (L1_) l15 i17 e27 a37 b44) 1)
def zo.j7 (L1_:(List Int)→Int→Prop) (l15:(List Int)) (i17:Int) (e27:SNode) (a37:Int):Prop:=∃b42:Bool,b42=((decide (0≤e27.2.2.1))&&(decide (e27.2.2.1<(l15.length:Int))))∧((b42)=true→∃e75:Int,at? l15 e27.2.2.1=some e75∧(zo.j6 (L1_) l15 i17 e27 a37) e75)∧((b42)=false→(zo.j6 (L1_) l15 i17 e27 a37) 0)
def zo.l1 (d_:SDesc) (X1:(List Int)→Prop):Nat→(List Int)→Int→Prop
 | 0,_,_=>False
 | k_0+1,l15,i17=>∃b23:Bool,b23=((decide (i17<(d_.length:Int)))&&(decide (i17<200)))∧((b23)=true→∃e27:SNode,at? d_ i17=some e27∧∃b35:Bool,b35=((decide (0≤e27.2.1))&&(decide (e27.2.1<(l15.length:Int))))∧((b35)=true→∃e77:Int,at? l15 e27.2.1=some e77∧(zo.j7 (zo.l1 d_ X1 k_0) l15 i17 e27) e77)∧((b35)=false→(zo.j7 (zo.l1 d_ X1 k_0) l15 i17 e27) 0))∧((b23)=false→X1 l15)
def zo (d_:SDesc) (r_:Int):Prop:=∃k18,zo.l1 d_ (zo.j1 r_) k18 ([]:(List Int)) 0
def zb6.j1 (r_:Bool):Prop:=r_=false
def zb6.l1 (d_:SDesc) (r_:Bool) (X1:Prop):Nat→Int→Prop
 | 0,_=>False
 | k_0+1,i6=>((decide (i6<(d_.length:Int)))=true→∃e14:SNode,at? d_ i6=some e14∧∃e16:SNode,((((e14.1==8))=false)→at? d_ i6=some e16)∧((((e14.1==8)||(e16.1==9)))=true→r_=true)∧((((e14.1==8)||(e16.1==9)))=false→(InR .i64 (i6+1))∧zb6.l1 d_ r_ X1 k_0 (i6+1)))∧((decide (i6<(d_.length:Int)))=false→X1)
def zb6 (d_:SDesc) (r_:Bool):Prop:=∃k7,zb6.l1 d_ r_ (zb6.j1 r_) k7 0
def zgk (d_:SDesc) (ev_:SDesc) (things_:Int) (r_:Bool):Prop:=∃r3:Bool,(((decide (things_≤10))=false)→zb6 d_ r3)∧∃r5:Bool,((((decide (things_≤10))=false)∧((!r3))=true)→zb6 ev_ r5)∧r_=((decide (things_≤10))||((!r3)&&(!r5)))
end Go.Proofs.YtahgmdbioafmbaaGreatDoor.V
