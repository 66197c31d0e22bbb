/- Facts on types. -/
import Derived.Test.YtkdbiiollbeoeaaM1
import Derived.Test.YtkdbiiollbeoeaaAA
namespace Go.Proofs.Ytkdbiiollbeoeaa.V
open Go
set_option linter.unusedVariables false
noncomputable abbrev EnF35 : En (Cl × Int → Prop) := En.fun Try.prog (fun q => [Pd.rep En.cls q.1]) (fun q => Rq (Pd.rep (En.int .i64) q.2))
noncomputable abbrev EnF54 : En (Cl × Cl × Int → Prop) := En.fun Try.prog (fun q => [Pd.rep En.cls q.1, Pd.rep En.cls q.2.1]) (fun q => Rq (Pd.rep (En.int .i64) q.2.2))
theorem ty4 : Ty Try.prog 4 En.bool := ⟨⟨_, _, rfl, rfl, rfl, rfl, by decide⟩, _, rfl, rfl⟩
theorem ty5 : Ty Try.prog 5 (En.int .u8) := ⟨⟨_, _, rfl, rfl, rfl, rfl, by decide⟩, _, rfl, rfl⟩
theorem ty22 : Ty Try.prog 22 (En.int .u64) := ⟨⟨_, _, rfl, rfl, rfl, rfl, by decide⟩, _, rfl, rfl⟩
theorem ty24 : Ty Try.prog 24 En.cls := ⟨⟨_, _, rfl, rfl, rfl, rfl, by decide⟩, _, rfl, rfl⟩
theorem ty35 : Ty Try.prog 35 EnF35 := ⟨⟨_, _, rfl, rfl, rfl, rfl, by decide⟩, _, rfl, rfl⟩
theorem tyz4 : TyZ Try.prog 4 En.bool (false : Bool) := ⟨⟨_, _, [.bool false], rfl, rfl, rfl, fun _ _ => rfl⟩⟩
theorem tyz24 : TyZ Try.prog 24 En.cls (0#256 : Cl) := ⟨⟨_, _, clsCells 0#256, rfl, rfl, by rfl, fun _ _ => rfl⟩⟩
theorem tyz35 : TyZ Try.prog 35 EnF35 (fun _ => False : (Cl × Int → Prop)) := ⟨⟨_, _, [.nilFunc], rfl, rfl, rfl, fun _ _ => .inl ⟨rfl, fun _ h => h⟩⟩⟩
theorem eq24 : Eqv Try.prog 24 En.cls := eqv_cls (by exact Try.underlying24) rfl rfl (by kernel_rfl)
end Go.Proofs.Ytkdbiiollbeoeaa.V
