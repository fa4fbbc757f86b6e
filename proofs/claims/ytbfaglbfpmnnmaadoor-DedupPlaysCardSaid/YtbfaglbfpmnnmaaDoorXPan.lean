import Derived.Test.YtbfaglbfpmnnmaaDoorXStr
namespace Go.X
set_option linter.unusedSimpArgs false
set_option linter.unusedVariables false
open Go
/-- panic(v): never reached in a proof. -/
def sPanic (v : Value) : Sem Next := do pure (.value (← Instr.panic v))
end Go.X
