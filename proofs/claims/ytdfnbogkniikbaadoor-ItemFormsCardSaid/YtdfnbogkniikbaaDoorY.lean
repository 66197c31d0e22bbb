/- Facts on types. -/
import Derived.Test.YtdfnbogkniikbaaDoorM1
import Derived.Test.YtdfnbogkniikbaaDoorD
namespace Go.Proofs.YtdfnbogkniikbaaDoor.V
open Go
set_option linter.unusedVariables false
set_option maxRecDepth 100000
noncomputable abbrev En.SItem : En SItem := (En.cat (En.int .i64) (En.cat (En.int .i64) (En.cat (En.int .i64) (En.int .i64))))
noncomputable abbrev EnF75 : En (SItem × Bool → Prop) := En.fun Tryd.prog (fun q => [Pd.rep En.SItem q.1]) (fun q => Rq (Pd.rep En.bool q.2))
noncomputable abbrev EnF79 : En (SItem × SItem × Int → Prop) := En.fun Tryd.prog (fun q => [Pd.rep En.SItem q.1, Pd.rep En.SItem q.2.1]) (fun q => Rq (Pd.rep (En.int .i64) q.2.2))
noncomputable abbrev En.SNode : En SNode := (En.cat (En.int .i64) (En.cat (En.int .i64) (En.cat (En.int .i64) (En.cat (En.int .i64) (En.cat (En.int .i64) (En.cat En.cls En.str))))))
noncomputable abbrev En.SDesc : En SDesc := En.solo (En.slice En.SNode)
theorem ty3 : Ty Tryd.prog 3 (En.int .i64) := ⟨⟨_, _, rfl, rfl, rfl, rfl, by decide⟩, _, rfl, rfl⟩
theorem ty9 : Ty Tryd.prog 9 En.str := ⟨⟨_, _, rfl, rfl, rfl, rfl, by decide⟩, _, rfl, rfl⟩
theorem ty22 : Ty Tryd.prog 22 (En.slice En.SNode) := ⟨⟨_, _, rfl, rfl, rfl, rfl, by decide⟩, _, rfl, rfl⟩
theorem ty24 : Ty Tryd.prog 24 En.SDesc := ⟨⟨_, _, rfl, rfl, rfl, rfl, by decide⟩, _, rfl, rfl⟩
theorem ty36 : Ty Tryd.prog 36 En.SItem := ⟨⟨_, _, rfl, rfl, rfl, rfl, by decide⟩, _, rfl, rfl⟩
theorem ty67 : Ty Tryd.prog 67 En.cls := ⟨⟨_, _, rfl, rfl, rfl, rfl, by decide⟩, _, rfl, rfl⟩
theorem ty69 : Ty Tryd.prog 69 En.SNode := ⟨⟨_, _, rfl, rfl, rfl, rfl, by decide⟩, _, rfl, rfl⟩
theorem tyz24 : TyZ Tryd.prog 24 En.SDesc ([] : SDesc) := ⟨_, _, [.slice none 0 0], rfl, rfl, by rfl, fun _ _ => ⟨_, rfl, slV_nil _ _ _⟩⟩
theorem tyz36 : TyZ Tryd.prog 36 En.SItem ((0, 0, 0, 0) : SItem) := ⟨_, _, ([.int .i64 0] ++ ([.int .i64 0] ++ ([.int .i64 0] ++ [.int .i64 0]))), rfl, rfl, by rfl, fun _ _ => ⟨_, _, rfl, ⟨rfl, by decide⟩, ⟨_, _, rfl, ⟨rfl, by decide⟩, ⟨_, _, rfl, ⟨rfl, by decide⟩, ⟨rfl, by decide⟩⟩⟩⟩⟩
theorem tyz69 : TyZ Tryd.prog 69 En.SNode ((0, 0, 0, 0, 0, (0#256), ([] : Str)) : SNode) := ⟨_, _, ([.int .i64 0] ++ ([.int .i64 0] ++ ([.int .i64 0] ++ ([.int .i64 0] ++ ([.int .i64 0] ++ (clsCells 0#256 ++ [.string ⟨#[]⟩])))))), rfl, rfl, by rfl, fun _ _ => ⟨_, _, rfl, ⟨rfl, by decide⟩, ⟨_, _, rfl, ⟨rfl, by decide⟩, ⟨_, _, rfl, ⟨rfl, by decide⟩, ⟨_, _, rfl, ⟨rfl, by decide⟩, ⟨_, _, rfl, ⟨rfl, by decide⟩, ⟨_, _, rfl, rfl, ⟨rfl, by decide⟩⟩⟩⟩⟩⟩⟩⟩
theorem stt24 : Stt Tryd.prog 24 [(0, 1)] := ⟨_, Tryd.underlying24, by kernel_rfl⟩
theorem stt36 : Stt Tryd.prog 36 [(0, 1), (1, 1), (2, 1), (3, 1)] := ⟨_, Tryd.underlying36, by kernel_rfl⟩
theorem stt69 : Stt Tryd.prog 69 [(0, 1), (1, 1), (2, 1), (3, 1), (4, 1), (5, 4), (9, 1)] := ⟨_, Tryd.underlying69, by kernel_rfl⟩
theorem eqi36 : EqI Tryd.prog 2 36 En.SItem := eqi_struct rfl (by kernel_rfl) (by kernel_rfl) rfl (eqfs_cons (EqI.up (eqi_int Tryd.underlying3) (by decide)) ty3 (by kernel_rfl) (by kernel_rfl) (eqfs_cons (EqI.up (eqi_int Tryd.underlying3) (by decide)) ty3 (by kernel_rfl) (by kernel_rfl) (eqfs_cons (EqI.up (eqi_int Tryd.underlying3) (by decide)) ty3 (by kernel_rfl) (by kernel_rfl) (eqfs_last (EqI.up (eqi_int Tryd.underlying3) (by decide)) ty3 (by kernel_rfl) (by kernel_rfl)))))
theorem eq36 : Eqv Tryd.prog 36 En.SItem := eqv_struct eqi36 (by decide) rfl (by kernel_rfl)
theorem eqi69 : EqI Tryd.prog 3 69 En.SNode := eqi_struct rfl (by kernel_rfl) (by kernel_rfl) rfl (eqfs_cons (EqI.up (eqi_int Tryd.underlying3) (by decide)) ty3 (by kernel_rfl) (by kernel_rfl) (eqfs_cons (EqI.up (eqi_int Tryd.underlying3) (by decide)) ty3 (by kernel_rfl) (by kernel_rfl) (eqfs_cons (EqI.up (eqi_int Tryd.underlying3) (by decide)) ty3 (by kernel_rfl) (by kernel_rfl) (eqfs_cons (EqI.up (eqi_int Tryd.underlying3) (by decide)) ty3 (by kernel_rfl) (by kernel_rfl) (eqfs_cons (EqI.up (eqi_int Tryd.underlying3) (by decide)) ty3 (by kernel_rfl) (by kernel_rfl) (eqfs_cons (EqI.up (eqi_cls Tryd.underlying67 Tryd.underlying65 (by kernel_rfl)) (by decide)) ty67 (by kernel_rfl) (by kernel_rfl) (eqfs_last (EqI.up (eqi_str Tryd.underlying9) (by decide)) ty9 (by kernel_rfl) (by kernel_rfl))))))))
theorem eq69 : Eqv Tryd.prog 69 En.SNode := eqv_struct eqi69 (by decide) rfl (by kernel_rfl)
end Go.Proofs.YtdfnbogkniikbaaDoor.V
