/- Facts on types. -/
import Derived.Test.YtdfnbogkniikbaaDoorM1
import Derived.Test.YtdfnbogkniikbaaDoorD
namespace Go.Proofs.YtdfnbogkniikbaaDoor.V
open Go
set_option linter.unusedVariables false
set_option maxRecDepth 100000
noncomputable abbrev EnF88 : En (Int × Str → Prop) := En.fun Tryd.prog (fun q => [Pd.rep (En.int .i64) q.1]) (fun q => Rq (Pd.rep En.str q.2))
noncomputable abbrev En.SWay : En SWay := (En.cat (En.int .u8) (En.int .i64))
noncomputable abbrev EnF94 : En (SWay × Bool → Prop) := En.fun Tryd.prog (fun q => [Pd.rep En.SWay q.1]) (fun q => Rq (Pd.rep En.bool q.2))
noncomputable abbrev EnF95 : En ((List SWay) × Bool → Prop) := En.fun Tryd.prog (fun q => [Pd.rep (En.slice En.SWay) q.1]) (fun q => Rq (Pd.rep En.bool q.2))
noncomputable abbrev En.SOn_int_search : En SOn_int_search := (En.cat (En.int .u8) (En.int .i64))
noncomputable abbrev EnF98 : En (Int × (List SOn_int_search) → Prop) := En.fun Tryd.prog (fun q => [Pd.rep (En.int .i64) q.1]) (fun q => Rq (Pd.rep (En.slice En.SOn_int_search) q.2))
noncomputable abbrev EnF99 : En (Int × Bool → Prop) := En.fun Tryd.prog (fun q => [Pd.rep (En.int .i64) q.1]) (fun q => Rq (Pd.rep En.bool q.2))
noncomputable abbrev En.SSpace_int_searchR : En SSpace_int_searchR := (En.cat (En.int .i64) (En.cat EnF88 (En.cat EnF98 En.raw)))
noncomputable abbrev En.STable : En STable := (En.cat (En.slice (En.slice En.SWay)) (En.slice En.bool))
noncomputable abbrev En.SThing_ref17 : En SThing_ref17 := (En.cat (En.int .i64) (En.slice (En.int .u8)))
noncomputable abbrev En.SVerdict : En SVerdict := (En.cat (En.int .i64) (En.cat (En.slice (En.int .u8)) (En.cat (En.slice (En.int .u8)) (En.cat (En.int .i64) (En.cat (En.int .i64) (En.cat (En.int .i64) (En.int .i64)))))))
noncomputable abbrev En.SFound_int_search : En SFound_int_search := (En.cat En.SVerdict (En.int .i64))
noncomputable abbrev En.SSpace_int_search : En SSpace_int_search := (En.cat (En.int .i64) (En.cat EnF88 (En.cat EnF98 EnF99)))
noncomputable abbrev En.Smade_int_search : En Smade_int_search := (En.cat (En.int .i64) (En.cat (En.int .i64) (En.int .u8)))
theorem ty101r : Ty Tryd.prog 101 En.SSpace_int_searchR := ⟨⟨_, _, rfl, rfl, rfl, rfl, by decide⟩, _, rfl, rfl⟩
theorem ty99r : Ty Tryd.prog 99 En.raw := ⟨⟨_, _, rfl, rfl, rfl, rfl, by decide⟩, _, rfl, rfl⟩
theorem ty3 : Ty Tryd.prog 3 (En.int .i64) := ⟨⟨_, _, rfl, rfl, rfl, rfl, by decide⟩, _, rfl, rfl⟩
theorem ty4 : Ty Tryd.prog 4 En.bool := ⟨⟨_, _, rfl, rfl, rfl, rfl, by decide⟩, _, rfl, rfl⟩
theorem ty5 : Ty Tryd.prog 5 (En.int .u8) := ⟨⟨_, _, rfl, rfl, rfl, rfl, by decide⟩, _, rfl, rfl⟩
theorem ty42 : Ty Tryd.prog 42 (En.slice (En.slice En.SWay)) := ⟨⟨_, _, rfl, rfl, rfl, rfl, by decide⟩, _, rfl, rfl⟩
theorem ty43 : Ty Tryd.prog 43 (En.slice En.bool) := ⟨⟨_, _, rfl, rfl, rfl, rfl, by decide⟩, _, rfl, rfl⟩
theorem ty45 : Ty Tryd.prog 45 En.STable := ⟨⟨_, _, rfl, rfl, rfl, rfl, by decide⟩, _, rfl, rfl⟩
theorem ty47 : Ty Tryd.prog 47 (En.slice (En.int .i64)) := ⟨⟨_, _, rfl, rfl, rfl, rfl, by decide⟩, _, rfl, rfl⟩
theorem ty51 : Ty Tryd.prog 51 (En.slice (En.int .u8)) := ⟨⟨_, _, rfl, rfl, rfl, rfl, by decide⟩, _, rfl, rfl⟩
theorem ty53 : Ty Tryd.prog 53 En.SThing_ref17 := ⟨⟨_, _, rfl, rfl, rfl, rfl, by decide⟩, _, rfl, rfl⟩
theorem ty55 : Ty Tryd.prog 55 (En.int .i64) := ⟨⟨_, _, rfl, rfl, rfl, rfl, by decide⟩, _, rfl, rfl⟩
theorem ty57 : Ty Tryd.prog 57 En.SVerdict := ⟨⟨_, _, rfl, rfl, rfl, rfl, by decide⟩, _, rfl, rfl⟩
theorem ty60 : Ty Tryd.prog 60 (En.slice En.SWay) := ⟨⟨_, _, rfl, rfl, rfl, rfl, by decide⟩, _, rfl, rfl⟩
theorem ty62 : Ty Tryd.prog 62 En.SWay := ⟨⟨_, _, rfl, rfl, rfl, rfl, by decide⟩, _, rfl, rfl⟩
theorem ty88 : Ty Tryd.prog 88 EnF88 := ⟨⟨_, _, rfl, rfl, rfl, rfl, by decide⟩, _, rfl, rfl⟩
theorem ty97 : Ty Tryd.prog 97 En.SFound_int_search := ⟨⟨_, _, rfl, rfl, rfl, rfl, by decide⟩, _, rfl, rfl⟩
theorem ty98 : Ty Tryd.prog 98 EnF98 := ⟨⟨_, _, rfl, rfl, rfl, rfl, by decide⟩, _, rfl, rfl⟩
theorem ty99 : Ty Tryd.prog 99 EnF99 := ⟨⟨_, _, rfl, rfl, rfl, rfl, by decide⟩, _, rfl, rfl⟩
theorem ty101 : Ty Tryd.prog 101 En.SSpace_int_search := ⟨⟨_, _, rfl, rfl, rfl, rfl, by decide⟩, _, rfl, rfl⟩
theorem ty112 : Ty Tryd.prog 112 En.SOn_int_search := ⟨⟨_, _, rfl, rfl, rfl, rfl, by decide⟩, _, rfl, rfl⟩
theorem ty114 : Ty Tryd.prog 114 En.Smade_int_search := ⟨⟨_, _, rfl, rfl, rfl, rfl, by decide⟩, _, rfl, rfl⟩
theorem tyz101r : TyZ Tryd.prog 101 En.SSpace_int_searchR ((0, (fun _ => False), (fun _ => False), Value.nilFunc) : SSpace_int_searchR) := ⟨_, _, ([.int .i64 0] ++ ([.nilFunc] ++ ([.nilFunc] ++ [.nilFunc]))), rfl, rfl, by rfl, fun _ _ => ⟨_, _, rfl, ⟨rfl, by decide⟩, ⟨_, _, rfl, .inl ⟨rfl, fun _ h => h⟩, ⟨_, _, rfl, .inl ⟨rfl, fun _ h => h⟩, ⟨rfl, rfl⟩⟩⟩⟩⟩
theorem tyz3 : TyZ Tryd.prog 3 (En.int .i64) (0 : Int) := ⟨_, _, [.int .i64 0], rfl, rfl, by rfl, fun _ _ => ⟨rfl, by decide⟩⟩
theorem tyz45 : TyZ Tryd.prog 45 En.STable (([], []) : STable) := ⟨_, _, ([.slice none 0 0] ++ [.slice none 0 0]), rfl, rfl, by rfl, fun _ _ => ⟨_, _, rfl, ⟨_, rfl, slV_nil _ _ _⟩, ⟨_, rfl, slV_nil _ _ _⟩⟩⟩
theorem tyz53 : TyZ Tryd.prog 53 En.SThing_ref17 ((0, []) : SThing_ref17) := ⟨_, _, ([.int .i64 0] ++ [.slice none 0 0]), rfl, rfl, by rfl, fun _ _ => ⟨_, _, rfl, ⟨rfl, by decide⟩, ⟨_, rfl, slV_nil _ _ _⟩⟩⟩
theorem tyz57 : TyZ Tryd.prog 57 En.SVerdict ((0, [], [], 0, 0, 0, 0) : SVerdict) := ⟨_, _, ([.int .i64 0] ++ ([.slice none 0 0] ++ ([.slice none 0 0] ++ ([.int .i64 0] ++ ([.int .i64 0] ++ ([.int .i64 0] ++ [.int .i64 0])))))), rfl, rfl, by rfl, fun _ _ => ⟨_, _, rfl, ⟨rfl, by decide⟩, ⟨_, _, rfl, ⟨_, rfl, slV_nil _ _ _⟩, ⟨_, _, rfl, ⟨_, rfl, slV_nil _ _ _⟩, ⟨_, _, rfl, ⟨rfl, by decide⟩, ⟨_, _, rfl, ⟨rfl, by decide⟩, ⟨_, _, rfl, ⟨rfl, by decide⟩, ⟨rfl, by decide⟩⟩⟩⟩⟩⟩⟩⟩
theorem tyz62 : TyZ Tryd.prog 62 En.SWay ((0, 0) : SWay) := ⟨_, _, ([.int .u8 0] ++ [.int .i64 0]), rfl, rfl, by rfl, fun _ _ => ⟨_, _, rfl, ⟨rfl, by decide⟩, ⟨rfl, by decide⟩⟩⟩
theorem tyz97 : TyZ Tryd.prog 97 En.SFound_int_search (((0, [], [], 0, 0, 0, 0), 0) : SFound_int_search) := ⟨_, _, (([.int .i64 0] ++ ([.slice none 0 0] ++ ([.slice none 0 0] ++ ([.int .i64 0] ++ ([.int .i64 0] ++ ([.int .i64 0] ++ [.int .i64 0])))))) ++ [.int .i64 0]), rfl, rfl, by rfl, fun _ _ => ⟨_, _, rfl, ⟨_, _, rfl, ⟨rfl, by decide⟩, ⟨_, _, rfl, ⟨_, rfl, slV_nil _ _ _⟩, ⟨_, _, rfl, ⟨_, rfl, slV_nil _ _ _⟩, ⟨_, _, rfl, ⟨rfl, by decide⟩, ⟨_, _, rfl, ⟨rfl, by decide⟩, ⟨_, _, rfl, ⟨rfl, by decide⟩, ⟨rfl, by decide⟩⟩⟩⟩⟩⟩⟩, ⟨rfl, by decide⟩⟩⟩
theorem tyz101 : TyZ Tryd.prog 101 En.SSpace_int_search ((0, (fun _ => False), (fun _ => False), (fun _ => False)) : SSpace_int_search) := ⟨_, _, ([.int .i64 0] ++ ([.nilFunc] ++ ([.nilFunc] ++ [.nilFunc]))), rfl, rfl, by rfl, fun _ _ => ⟨_, _, rfl, ⟨rfl, by decide⟩, ⟨_, _, rfl, .inl ⟨rfl, fun _ h => h⟩, ⟨_, _, rfl, .inl ⟨rfl, fun _ h => h⟩, .inl ⟨rfl, fun _ h => h⟩⟩⟩⟩⟩
theorem tyz112 : TyZ Tryd.prog 112 En.SOn_int_search ((0, 0) : SOn_int_search) := ⟨_, _, ([.int .u8 0] ++ [.int .i64 0]), rfl, rfl, by rfl, fun _ _ => ⟨_, _, rfl, ⟨rfl, by decide⟩, ⟨rfl, by decide⟩⟩⟩
theorem tyz114 : TyZ Tryd.prog 114 En.Smade_int_search ((0, 0, 0) : Smade_int_search) := ⟨_, _, ([.int .i64 0] ++ ([.int .i64 0] ++ [.int .u8 0])), rfl, rfl, by rfl, fun _ _ => ⟨_, _, rfl, ⟨rfl, by decide⟩, ⟨_, _, rfl, ⟨rfl, by decide⟩, ⟨rfl, by decide⟩⟩⟩⟩
theorem tyv4 : TyV Tryd.prog 4 En.bool (false : Bool) := ⟨_, [.bool false], rfl, by rfl, fun _ _ => rfl⟩
theorem tyn47 : TyN Tryd.prog 47 := ⟨_, rfl, by rfl⟩
theorem stt101r : Stt Tryd.prog 101 [(0, 1), (1, 1), (2, 1), (3, 1)] := ⟨_, Tryd.underlying101, by kernel_rfl⟩
theorem stt45 : Stt Tryd.prog 45 [(0, 1), (1, 1)] := ⟨_, Tryd.underlying45, by kernel_rfl⟩
theorem stt53 : Stt Tryd.prog 53 [(0, 1), (1, 1)] := ⟨_, Tryd.underlying53, by kernel_rfl⟩
theorem stt57 : Stt Tryd.prog 57 [(0, 1), (1, 1), (2, 1), (3, 1), (4, 1), (5, 1), (6, 1)] := ⟨_, Tryd.underlying57, by kernel_rfl⟩
theorem stt62 : Stt Tryd.prog 62 [(0, 1), (1, 1)] := ⟨_, Tryd.underlying62, by kernel_rfl⟩
theorem stt97 : Stt Tryd.prog 97 [(0, 7), (7, 1)] := ⟨_, Tryd.underlying97, by kernel_rfl⟩
theorem stt101 : Stt Tryd.prog 101 [(0, 1), (1, 1), (2, 1), (3, 1)] := ⟨_, Tryd.underlying101, by kernel_rfl⟩
theorem stt112 : Stt Tryd.prog 112 [(0, 1), (1, 1)] := ⟨_, Tryd.underlying112, by kernel_rfl⟩
theorem stt114 : Stt Tryd.prog 114 [(0, 1), (1, 1), (2, 1)] := ⟨_, Tryd.underlying114, by kernel_rfl⟩
theorem eqi62 : EqI Tryd.prog 2 62 En.SWay := eqi_struct rfl (by kernel_rfl) (by kernel_rfl) rfl (eqfs_cons (EqI.up (eqi_int Tryd.underlying5) (by decide)) ty5 (by kernel_rfl) (by kernel_rfl) (eqfs_last (EqI.up (eqi_int Tryd.underlying3) (by decide)) ty3 (by kernel_rfl) (by kernel_rfl)))
theorem eq62 : Eqv Tryd.prog 62 En.SWay := eqv_struct eqi62 (by decide) rfl (by kernel_rfl)
end Go.Proofs.YtdfnbogkniikbaaDoor.V
