/- plimsolllaw06.awake: run by the kernel. -/
import Derived.Test.YteelkalenpbmmaaAbs21
import Derived.Test.YteelkalenpbmmaaFns
set_option linter.unusedVariables false
set_option maxRecDepth 100000
namespace Go.Proofs.Yteelkalenpbmmaa.Ab

def prog6 : FuncId → Option AFn
  | 10 => some F10 | 11 => some F11 | 28 => some F28 | 32 => some F32 | 33 => some F33 | 34 => some F34 | 35 => some F35 | 36 => some F36
  | 61 => some F61 | 62 => some F62 | 63 => some F63 | 64 => some F64 | 65 => some F65 | 59 => some F59 | 123 => some F123
  | 70 => some F70 | 71 => some F71 | 72 => some F72 | 73 => some F73 | 74 => some F74 | 75 => some F75 | 76 => some F76 | 77 => some F77 | 78 => some F78 | 79 => some F79
  | 80 => some F80 | 81 => some F81 | 82 => some F82 | 83 => some F83 | 84 => some F84 | 85 => some F85 | 86 => some F86 | 87 => some F87 | 88 => some F88
  | 118 => some F118 | 126 => some F126 | 127 => some F127 | 128 => some F128 | 129 => some F129 | 130 => some F130 | 131 => some F131 | 132 => some F132 | 133 => some F133 | 146 => some F146 | 147 => some F147 | 148 => some F148
  | _ => none
theorem prog6_ok : ∀ f fn, prog6 f = some fn → FnOk Try.prog f fn := by
  intro f fn h
  unfold prog6 at h
  split at h
  all_goals first
    | (cases h; done)
    | (injection h with h; subst h; first | exact k10 | exact k11 | exact k28 | exact k32 | exact k33 | exact k34 | exact k35 | exact k36 | exact k61 | exact k62 | exact k63 | exact k64 | exact k65 | exact k59 | exact k123 | exact k70 | exact k71 | exact k72 | exact k73 | exact k74 | exact k75 | exact k76 | exact k77 | exact k78 | exact k79 | exact k80 | exact k81 | exact k82 | exact k83 | exact k84 | exact k85 | exact k86 | exact k87 | exact k88 | exact k118 | exact k126 | exact k127 | exact k128 | exact k129 | exact k130 | exact k131 | exact k132 | exact k133 | exact k146 | exact k147 | exact k148)
theorem mixed : Try.prog.follows .mixedOrders = true := by kernel_rfl
theorem run10 : (calls prog6 12).pcall 10 [] = some (.bool true) := by kernel_rfl
def s10 : List AV → Option AV
  | [] => some (.bool true)
  | _ => none
theorem w10 : PContract Try.prog 10 s10 := by
  intro F w avs vs r hF hg hargs
  cases avs with
  | nil => 
    injection hg with hg
    exact (calls_ok mixed prog6_ok 12).p 10 F w [] vs r hF (by rw [run10, hg]) hargs
  | cons a l => cases hg

end Go.Proofs.Yteelkalenpbmmaa.Ab
