/- The examples of chapter 13, worked out by the kernel: their calls. -/
import Derived.Test.YtpacancmcjbckaaGreatDoorMe
import Derived.Test.YtpacancmcjbckaaGreatDoorMf
section
set_option linter.unusedVariables false
set_option maxRecDepth 100000
namespace Go.D
theorem run27 : runIs PP pol 60 27 [exY, .p exB, .p (pI 2)] (.tuple [exL, .p (pI 0)]) = true := by decide +kernel
end Go.D
end
