/- The examples of chapter 22, worked out by the kernel: stuttering. -/
import Derived.Test.YtkpdgafinpedgaaGreatUh
import Derived.Test.YtkpdgafinpedgaaGreatUi
section
set_option linter.unusedVariables false
set_option maxRecDepth 100000
namespace Go.D
theorem run25:UW PP pol 40 25 [.agg (eGr exG),.agg exS] (.tuple [.agg exY,.p (pI 0)])=true:=by decide +kernel
theorem run31:UW PP pol 40 31 [.agg exY,.p (eSl (some [0,2,1]))] (.tuple [.p (eSl (some [0])),.p (pI 0)])=true:=by decide +kernel
end Go.D
end
