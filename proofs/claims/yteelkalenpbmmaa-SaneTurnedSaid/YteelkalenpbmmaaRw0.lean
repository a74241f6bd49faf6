/- An image, read. -/
import Derived.Test.YteelkalenpbmmaaAbs22
import Derived.Test.YteelkalenpbmmaaProg
set_option linter.unusedVariables false
set_option maxRecDepth 20000
namespace Go.Proofs.Yteelkalenpbmmaa.Ab
open Go

theorem o3 : Opn Try.prog 3 SI := opn_i64 Try.underlying3
theorem o35 : Opn Try.prog 35 (fun avs => ∃ a : Ty, a.Ok ∧ avs = (eTy a).cells) := opn_Ty Try.underlying35 (by kernel_rfl) ⟨rfl, o3, (by decide +kernel), rfl, o3, (by decide +kernel), (by show _ = _; kernel_rfl)⟩
theorem o23 : Opn Try.prog 23 (SL Ty.Ok 2 eTy) := opn_list Try.underlying23 (by kernel_rfl) (by decide) (by decide +kernel) encT o35
theorem o26 : Opn Try.prog 26 (SL Rng 1 eI) := opn_list Try.underlying26 (by kernel_rfl) (by decide) (by decide +kernel) encI o3
theorem o41 : Opn Try.prog 41 (fun avs => ∃ a : Ins, a.Ok ∧ avs = (eIns a).cells) := opn_Ins Try.underlying41 (by kernel_rfl) ⟨rfl, o3, (by decide +kernel), rfl, o3, (by decide +kernel), rfl, o3, (by decide +kernel), (by show _ = _; kernel_rfl)⟩
theorem o36 : Opn Try.prog 36 (SL Ins.Ok 3 eIns) := opn_list Try.underlying36 (by kernel_rfl) (by decide) (by decide +kernel) encN o41
theorem o65 : Opn Try.prog 65 (fun avs => ∃ a : Klass, a.Ok ∧ avs = (eCls a).cells) := opn_Cls Try.underlying65 (by kernel_rfl) ⟨rfl, o3, (by decide +kernel), rfl, o23, (by decide +kernel), rfl, o26, (by decide +kernel), (by show _ = _; kernel_rfl)⟩
theorem o22 : Opn Try.prog 22 (SL Klass.Ok 3 eCls) := opn_list Try.underlying22 (by kernel_rfl) (by decide) (by decide +kernel) encC o65
theorem o38 : Opn Try.prog 38 (fun avs => ∃ a : Meth, a.Ok ∧ avs = (eMeth a).cells) := opn_Meth Try.underlying38 (by kernel_rfl)
  ⟨rfl, o23, (by decide +kernel), rfl, o23, (by decide +kernel), rfl, o35, (by decide +kernel), rfl, o36, (by decide +kernel), rfl, o3, (by decide +kernel), rfl, o3, (by decide +kernel), rfl, o26, (by decide +kernel), (by show _ = _; kernel_rfl)⟩
theorem o25 : Opn Try.prog 25 (SL Meth.Ok 8 eMeth) := opn_list Try.underlying25 (by kernel_rfl) (by decide) (by decide +kernel) encM o38
theorem o28 : Opn Try.prog 28 (fun avs => ∃ a : Img, a.Ok ∧ avs = (eImg a).cells) := opn_Img Try.underlying28 (by kernel_rfl)
  ⟨rfl, o22, (by decide +kernel), rfl, o23, (by decide +kernel), rfl, opn_list Try.underlying24 (by kernel_rfl) (by decide) (by decide +kernel) enc32 (opn_i32 (by kernel_rfl)), (by decide +kernel), rfl, o25, (by decide +kernel), rfl, o26, (by decide +kernel), rfl, o3, (by decide +kernel), rfl, o3, (by decide +kernel), (by show _ = _; kernel_rfl)⟩

end Go.Proofs.Yteelkalenpbmmaa.Ab
