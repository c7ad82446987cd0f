/- The examples of chapter 24, worked out by the kernel: the rules. -/
import Derived.Test.YthddgnfaaccgjaaQe
section
set_option linter.unusedVariables false
set_option maxRecDepth 100000
namespace Go.D
theorem run45a : runIs PP pol 40 45 [.agg (exRule wTurn)] (.tuple [.agg fault0, .p (pI 0)]) = true := by decide +kernel
theorem run45b : runIs PP pol 40 45 [.agg (exRule wAll)] (.tuple [.agg fault1, .p (pI 31)]) = true := by decide +kernel
end Go.D
end
