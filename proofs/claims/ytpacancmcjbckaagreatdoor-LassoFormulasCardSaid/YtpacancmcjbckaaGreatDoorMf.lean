/- The examples of chapter 13, worked out by the kernel: their calls. -/
import Derived.Test.YtpacancmcjbckaaGreatDoorMe
section
set_option linter.unusedVariables false
set_option maxRecDepth 100000
namespace Go.D
theorem run20 : runIs PP pol 60 20 [.p exU, .agg [.p (exN [0, 1]), .p (exN [2, 0])]] (.tuple [.p (.bool true), .p (pI 0)]) = true := by decide +kernel
end Go.D
end
