/- 'make([]T, 0, n)': an empty row of the call's own, as one event of a walk. Beside the printed words' R_make. -/
import Derived.Test.YtfapfpkijeaapaaWMore
import Derived.ArgAppend
import Derived.Deep.AppendLies
import Derived.Lib.Strings
import Derived.Lib.AppendStr
namespace Go.Proofs.YtfapfpkijeaapaaW.PrintWords
open Go.RowKit
set_option linter.unusedVariables false
set_option linter.unusedSimpArgs false
section
variable {P : Program} {ops : Array Oper} {o : Oper} {a : Act} {Q : Exit → Act → World → Prop} {Kc : Act → World → Prop}
end
theorem bne_nil_ (l : List UInt8) : (l != []) = !l.isEmpty := by cases l <;> rfl
namespace Kd
section
variable {P : Program} {ops : Array Oper} {rest : List Oper} {o : Oper} {a : Act} {Q : Exit → Act → World → Prop} {Kc : Act → World → Prop} {α : Type}
end
end Kd
namespace Kd
section
variable {P : Program} {ops : Array Oper} {rest : List Oper} {o : Oper} {a : Act} {Q : Exit → Act → World → Prop} {Kc : Act → World → Prop} {α : Type}
end
end Kd
namespace Kd
end Kd
end Go.Proofs.YtfapfpkijeaapaaW.PrintWords
